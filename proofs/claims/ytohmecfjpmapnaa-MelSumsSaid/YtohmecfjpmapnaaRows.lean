/-
  No cell of these rows narrows 'for every input' (looked for: loops, veiled, ifaces, maps, wideKeys, modest, calm, conditions, laid).
  DERIVED. THE GIVEN ROWS OF THIS SEAT. 5 by the template 'for every input the law returns true; each argument reads behind the call as it read before'; 0 by the template 'total and deterministic' (their statements: YtohmecfjpmapnaaTotals.lean).
  GIVEN WITH THE SEED: the statements are not yours to turn. If you find one false, say at which input.
  Laid BY PROGRAM, IN A SANDBOX (cutbox-rows.mjs): the forced cells as the released guide's own fill.sh prints them over the translation bcbaff6220891d36… (all of the seat's roots in one cut). By AI agents, Wed Nov 11 2026. No macro, syntax, notation, axiom, sorry.
-/
import Derived.Test.YtohmecfjpmapnaaChecked
import GoSem.Claim
import GoSem.ClaimJoined
import GoSem.ClaimMapViews
import Derived.JoinedTies
import Derived.KernelRfl
namespace Go.Proofs.Ytohmecfjpmapnaa
/- THE CELL 'sum', in the pinned program and in every row, IS THE sha256 OF THE DUMP (.gsa) THAT YtohmecfjpmapnaaProg.lean LOADS. Nothing in Lean hashes anything: it is a label: what it is worth is what the hold of that sum in a sandbox is worth. -/
noncomputable def Try.pinned : Pinned := { name := "ytohmecfjpmapnaa", sum := "bcbaff6220891d361248656b5e0cf3dc7e8d0e995ef07192fd4c7c27e0d3ee74", checked := Try.checked }
namespace Rows
def none {H : Type} : Left H := { results := [], args := [] }

/-- 'earshotlaw11.MelTells': WHATEVER THE INPUT: true; the input reads as it did. -/
def melTellsSpec : ChangeSpec := { name := "melTells", fn := fun _ => fun
  | [d1, d2, d3] => { results := [.lit (.bool true)], args := [d1, d2, d3] }
  | _ => none }
def melTellsRow : OpenClaim := { program := "ytohmecfjpmapnaa", sum := "bcbaff6220891d361248656b5e0cf3dc7e8d0e995ef07192fd4c7c27e0d3ee74", func := "earshot/earshotlaw11.MelTells", spec := "melTells", apart := false }
def MelTellsSaid : Prop := melTellsRow.holds Try.pinned (OpenSpec.ofChange melTellsSpec)

/-- ITS FALSE NEIGHBOUR: 'it returns false'. Refute it at one input. -/
def melTellsWrong : ChangeSpec := { name := "melTells", fn := fun _ => fun
  | [d1, d2, d3] => { results := [.lit (.bool false)], args := [d1, d2, d3] }
  | _ => none }
def MelTellsWrongFalsely : Prop := melTellsRow.holds Try.pinned (OpenSpec.ofChange melTellsWrong)

/-- 'earshotlaw11.MelEdges': WHATEVER THE INPUT: true; the input reads as it did. -/
def melEdgesSpec : ChangeSpec := { name := "melEdges", fn := fun _ => fun
  | [d1, d2] => { results := [.lit (.bool true)], args := [d1, d2] }
  | _ => none }
def melEdgesRow : OpenClaim := { program := "ytohmecfjpmapnaa", sum := "bcbaff6220891d361248656b5e0cf3dc7e8d0e995ef07192fd4c7c27e0d3ee74", func := "earshot/earshotlaw11.MelEdges", spec := "melEdges", apart := false }
def MelEdgesSaid : Prop := melEdgesRow.holds Try.pinned (OpenSpec.ofChange melEdgesSpec)

/-- ITS FALSE NEIGHBOUR: 'it returns false'. Refute it at one input. -/
def melEdgesWrong : ChangeSpec := { name := "melEdges", fn := fun _ => fun
  | [d1, d2] => { results := [.lit (.bool false)], args := [d1, d2] }
  | _ => none }
def MelEdgesWrongFalsely : Prop := melEdgesRow.holds Try.pinned (OpenSpec.ofChange melEdgesWrong)

/-- 'earshotlaw11.MelWeights': WHATEVER THE INPUT: true; the input reads as it did. -/
def melWeightsSpec : ChangeSpec := { name := "melWeights", fn := fun _ => fun
  | [d1, d2] => { results := [.lit (.bool true)], args := [d1, d2] }
  | _ => none }
def melWeightsRow : OpenClaim := { program := "ytohmecfjpmapnaa", sum := "bcbaff6220891d361248656b5e0cf3dc7e8d0e995ef07192fd4c7c27e0d3ee74", func := "earshot/earshotlaw11.MelWeights", spec := "melWeights", apart := false }
def MelWeightsSaid : Prop := melWeightsRow.holds Try.pinned (OpenSpec.ofChange melWeightsSpec)

/-- ITS FALSE NEIGHBOUR: 'it returns false'. Refute it at one input. -/
def melWeightsWrong : ChangeSpec := { name := "melWeights", fn := fun _ => fun
  | [d1, d2] => { results := [.lit (.bool false)], args := [d1, d2] }
  | _ => none }
def MelWeightsWrongFalsely : Prop := melWeightsRow.holds Try.pinned (OpenSpec.ofChange melWeightsWrong)

/-- 'earshotlaw11.MelBands': WHATEVER THE INPUT: true; the input reads as it did. -/
def melBandsSpec : ChangeSpec := { name := "melBands", fn := fun _ => fun
  | [d1, d2] => { results := [.lit (.bool true)], args := [d1, d2] }
  | _ => none }
def melBandsRow : OpenClaim := { program := "ytohmecfjpmapnaa", sum := "bcbaff6220891d361248656b5e0cf3dc7e8d0e995ef07192fd4c7c27e0d3ee74", func := "earshot/earshotlaw11.MelBands", spec := "melBands", unfollowed := true, recurses := true, apart := false }
def MelBandsSaid : Prop := melBandsRow.holds Try.pinned (OpenSpec.ofChange melBandsSpec)

/-- ITS FALSE NEIGHBOUR: 'it returns false'. Refute it at one input. -/
def melBandsWrong : ChangeSpec := { name := "melBands", fn := fun _ => fun
  | [d1, d2] => { results := [.lit (.bool false)], args := [d1, d2] }
  | _ => none }
def MelBandsWrongFalsely : Prop := melBandsRow.holds Try.pinned (OpenSpec.ofChange melBandsWrong)

/-- 'earshotlaw11.MelSums': WHATEVER THE INPUT: true; the input reads as it did. -/
def melSumsSpec : ChangeSpec := { name := "melSums", fn := fun _ => fun
  | [d1, d2, d3] => { results := [.lit (.bool true)], args := [d1, d2, d3] }
  | _ => none }
def melSumsRow : OpenClaim := { program := "ytohmecfjpmapnaa", sum := "bcbaff6220891d361248656b5e0cf3dc7e8d0e995ef07192fd4c7c27e0d3ee74", func := "earshot/earshotlaw11.MelSums", spec := "melSums", unfollowed := true, recurses := true, apart := false }
def MelSumsSaid : Prop := melSumsRow.holds Try.pinned (OpenSpec.ofChange melSumsSpec)

/-- ITS FALSE NEIGHBOUR: 'it returns false'. Refute it at one input. -/
def melSumsWrong : ChangeSpec := { name := "melSums", fn := fun _ => fun
  | [d1, d2, d3] => { results := [.lit (.bool false)], args := [d1, d2, d3] }
  | _ => none }
def MelSumsWrongFalsely : Prop := melSumsRow.holds Try.pinned (OpenSpec.ofChange melSumsWrong)

/- THE SECOND FORM. 'bulk': how many values and letters a reading holds, each counted each time it is reached (what is shared counts as often as it is met; a slice's spare places count too). A statement '..UptoSaid' is the law's where the arguments, and the package variables that the reading takes, are together of bulk at most 1048576: NARROWER than '..Said'. Prove '..Said' where nothing that the law and all that it calls make is longer than what came in: it says more and counts as full. Else prove '..UptoSaid'. A law counts once. -/
mutual
def uptoBulk {H : Type} : DataW H → Nat
  | .lit (.string bytes) => bytes.length + 1
  | .lit _ => 1
  | .nil => 1
  | .ptr d => uptoBulk d + 1
  | .slice elems spare => uptoBulkAll elems + uptoBulkAll spare + 1
  | .agg parts => uptoBulkAll parts + 1
  | .iface _ d => uptoBulk d + 1
  | .map entries => uptoBulkEntries entries + 1
  | .held _ => 1
def uptoBulkAll {H : Type} : List (DataW H) → Nat
  | [] => 0
  | d :: r => uptoBulk d + uptoBulkAll r
def uptoBulkEntries {H : Type} : List (Lit × DataW H) → Nat
  | [] => 0
  | x :: r => uptoBulkEntry x + uptoBulkEntries r
def uptoBulkEntry {H : Type} : Lit × DataW H → Nat
  | (.string bytes, d) => bytes.length + uptoBulk d + 1
  | (_, d) => uptoBulk d + 1
 end
def uptoSmall : (H : Type) → List (DataW H) → Bool := fun _ ds => decide (uptoBulkAll ds ≤ 1048576)
def OpenSpec.upto (s : _root_.Go.ChangeSpec) : _root_.Go.OpenSpec := { _root_.Go.OpenSpec.ofChange s with cond := some uptoSmall }

/-- 'earshotlaw11.MelTells', WHERE WHAT IT READS IS OF BULK AT MOST 1048576: true; the input reads as it did. -/
def melTellsUptoRow : OpenClaim := { program := "ytohmecfjpmapnaa", sum := "bcbaff6220891d361248656b5e0cf3dc7e8d0e995ef07192fd4c7c27e0d3ee74", func := "earshot/earshotlaw11.MelTells", spec := "melTells", apart := false, narrowed := true }
def MelTellsUptoSaid : Prop := melTellsUptoRow.holds Try.pinned (OpenSpec.upto melTellsSpec)

/-- 'earshotlaw11.MelEdges', WHERE WHAT IT READS IS OF BULK AT MOST 1048576: true; the input reads as it did. -/
def melEdgesUptoRow : OpenClaim := { program := "ytohmecfjpmapnaa", sum := "bcbaff6220891d361248656b5e0cf3dc7e8d0e995ef07192fd4c7c27e0d3ee74", func := "earshot/earshotlaw11.MelEdges", spec := "melEdges", apart := false, narrowed := true }
def MelEdgesUptoSaid : Prop := melEdgesUptoRow.holds Try.pinned (OpenSpec.upto melEdgesSpec)

/-- 'earshotlaw11.MelWeights', WHERE WHAT IT READS IS OF BULK AT MOST 1048576: true; the input reads as it did. -/
def melWeightsUptoRow : OpenClaim := { program := "ytohmecfjpmapnaa", sum := "bcbaff6220891d361248656b5e0cf3dc7e8d0e995ef07192fd4c7c27e0d3ee74", func := "earshot/earshotlaw11.MelWeights", spec := "melWeights", apart := false, narrowed := true }
def MelWeightsUptoSaid : Prop := melWeightsUptoRow.holds Try.pinned (OpenSpec.upto melWeightsSpec)

/-- 'earshotlaw11.MelBands', WHERE WHAT IT READS IS OF BULK AT MOST 1048576: true; the input reads as it did. -/
def melBandsUptoRow : OpenClaim := { program := "ytohmecfjpmapnaa", sum := "bcbaff6220891d361248656b5e0cf3dc7e8d0e995ef07192fd4c7c27e0d3ee74", func := "earshot/earshotlaw11.MelBands", spec := "melBands", unfollowed := true, recurses := true, apart := false, narrowed := true }
def MelBandsUptoSaid : Prop := melBandsUptoRow.holds Try.pinned (OpenSpec.upto melBandsSpec)

/-- 'earshotlaw11.MelSums', WHERE WHAT IT READS IS OF BULK AT MOST 1048576: true; the input reads as it did. -/
def melSumsUptoRow : OpenClaim := { program := "ytohmecfjpmapnaa", sum := "bcbaff6220891d361248656b5e0cf3dc7e8d0e995ef07192fd4c7c27e0d3ee74", func := "earshot/earshotlaw11.MelSums", spec := "melSums", unfollowed := true, recurses := true, apart := false, narrowed := true }
def MelSumsUptoSaid : Prop := melSumsUptoRow.holds Try.pinned (OpenSpec.upto melSumsSpec)

end Rows
end Go.Proofs.Ytohmecfjpmapnaa
