-- Written by a program of this work (wip/tools) for this claim; Lean checks it.
import Derived.Test.YtohmecfjpmapnaaRows
import Derived.Test.YtohmecfjpmapnaaPMelWeightsx2
import Derived.Test.YtohmecfjpmapnaaPureMelWeights
import Derived.WalkKit
import Derived.ProofKit
import Derived.OpenShut
import Derived.ShutString
import Derived.ChangeOld
import Derived.Below
import Derived.SizedLaws
import Derived.Test.YtohmecfjpmapnaaWSized
namespace Go.Proofs.Ytohmecfjpmapnaa.melWeights
open Go.ChangeShapes Go.WideShapes Go.ChangeAt Go.RowKit
open Go.ChangeMaps (open_string shut_string)
set_option linter.unusedVariables false
theorem own : ownKnob Try.prog.godebug = none := by kernel_rfl
theorem laidOut : laidOutB Try.prog = true := by kernel_rfl
def IsRow (k : IntKind) (w : World) (a : Option Addr) (len cap : Nat) (zs : List Int) : Prop :=
  (a = none ∧ len = 0 ∧ cap = 0 ∧ zs = []) ∨
  ∃ x, a = some x ∧ len ≤ cap ∧ cap ≤ maxLen ∧ zs.length = cap ∧ (∀ i, i < zs.length → w.cell? (x.add i) = some (.int k (zs.getD i 0))) ∧ ∀ n ∈ zs, (Lit.int k n).wf = true
theorem Agg.open22 {H : Type} {enc : TypeId × Value → H} {W : World} {base b0 : Nat} {sp : Nat → Bool} {hd : Bool} {v : Value} {d : DataW H} {p : List MemPlace} {fuel : Nat} (hv : Value.okWide Try.prog W .any b0 22 v)
    (h : DataW.trod enc Try.prog W base sp hd fuel 22 v.cells.toList = some (d, p)) : ∃ (a0 : Int) (a1 : Int) (a2 : Int) (a3 : Int), v = .agg #[.int .i64 a0, .int .i64 a1, .int .i64 a2, .int .i64 a3] ∧ (Lit.int .i64 a0).wf = true ∧ (Lit.int .i64 a1).wf = true ∧ (Lit.int .i64 a2).wf = true ∧ (Lit.int .i64 a3).wf = true ∧ p = [] := by
  have hc : ∃ cs, v = .agg cs ∧ cs.size = Try.prog.cellsOf 22 := by
    simp only [Value.okWide, Try.underlying22] at hv
    obtain ⟨cs, h1, h2, _⟩ := hv
    exact ⟨cs, h1, h2⟩
  obtain ⟨cs, rfl, hs⟩ := hc
  have hs' : cs.size = 4 := hs.trans (by kernel_rfl)
  obtain ⟨l⟩ := cs
  have ce3 : Try.prog.cellsOf 3 = 1 := by kernel_rfl
  match l, hs' with
  | [c0, c1, c2, c3], _ =>
    obtain ⟨xs, m, _, hx, _, hl, hf⟩ := DataW.trod_array Try.underlying22 h
    match xs, hl with
    | [y0, y1, y2, y3], _ =>
      have h0 := hf 0 (by decide)
      have h1 := hf 1 (by decide)
      have h2 := hf 2 (by decide)
      have h3 := hf 3 (by decide)
      simp [Value.cells, ce3] at h0 h1 h2 h3
      obtain ⟨n0, e0, rfl, w0⟩ := DataW.trod_int Try.underlying3 h0
      obtain ⟨n1, e1, rfl, w1⟩ := DataW.trod_int Try.underlying3 h1
      obtain ⟨n2, e2, rfl, w2⟩ := DataW.trod_int Try.underlying3 h2
      obtain ⟨n3, e3, rfl, w3⟩ := DataW.trod_int Try.underlying3 h3
      simp only [List.cons.injEq, and_true] at e0 e1 e2 e3
      simp only [Prod.mk.injEq] at hx
      obtain ⟨_, rfl⟩ := hx
      exact ⟨n0, n1, n2, n3, by rw [e0, e1, e2, e3], w0, w1, w2, w3, by simp⟩
set_option maxRecDepth 100000 in
theorem lifted (os : Os) (started : os.Started) (H : Type) (enc : TypeId × Value → H) :
    ReturnsInHanded {} Try.checked os 5 .any (Rows.melWeightsSpec.pre6 enc Try.prog Try.f5 Rows.melWeightsRow.domain false) (Rows.melWeightsSpec.post enc Try.prog Try.f5 false true false false) := by
  refine returnsInHanded_of_change_sized (C := Try.checked) own started (by kernel_rfl) Try.func5
    (ChangeSpec.witness6 (enc := enc) (C := Try.checked) false ⟨#[], #[.agg #[.int .i64 0, .int .i64 0, .int .i64 0, .int .i64 0], .int .i64 0], []⟩ 8 (by kernel_rfl) (by kernel_rfl) (by kernel_rfl) (by kernel_rfl)) ?_
  intro W base args ds gs before hval0 hW hcnd hsz0 _
  have hsz : (DataW.weightsEach Try.prog (Try.f5.params.toList ++ Rows.melWeightsSpec.plain.varTypes Try.prog) (ds ++ gs)).all (· ≤ reachBytes) = true := hsz0
  have hval : ∀ (j : Nat) t v, Try.f5.params[j]? = some t → args[j]? = some v → Value.okWide Try.prog W .any base t v := hval0
  have hW' := hW
  obtain ⟨p, q, hA0, hV, rfl, hfz, hnd⟩ := hW
  have hA : DataW.TrodAll enc Try.prog W 0 (fun _ => true) true Try.f5.params.toList args.toList ds p := hA0
  rw [Try.params5] at hA hval hsz
  obtain ⟨v0, vs0, d0, ds0, p0, q0, hargs, rfl, rfl, h0, r0⟩ := trodAll_cons hA
  obtain ⟨v1, vs1, d1, ds1, p1, q1, rfl, rfl, rfl, h1, r1⟩ := trodAll_cons r0
  obtain ⟨rfl, rfl, rfl⟩ := trodAll_nil r1
  obtain rfl : args = #[v0, v1] := by cases args; simp_all
  obtain ⟨rfl, rfl⟩ := trodVars_none hV
  have k0 := h0
  obtain ⟨fuel0, hf0⟩ := h0
  obtain ⟨a0_0, a0_1, a0_2, a0_3, rfl, w0_0, w0_1, w0_2, w0_3, rfl⟩ := Agg.open22 (hval 0 22 v0 rfl rfl) hf0
  have lt0 : ∀ x ∈ ([] : List MemPlace), x.block < W.heap.size := fun x hx => by cases hx
  obtain ⟨a1, rfl, rfl, rfl, w1⟩ := open_int Try.underlying3 (hval 1 3 v1 rfl rfl) h1
  clear hA0 hval0 hsz0 hsz
  refine (PMelWeights.earshotlaw11_MelWeights.walk Pure.MelWeights a0_0 a0_1 a0_2 a0_3 a1 W w0_0 w0_1 w0_2 w0_3 w1).mono fun e W' ⟨he, bel⟩ => ?_
  subst he
  exact ⟨_, rfl, _, _, _, [], _, [], hW', trodAll_mk1 (shut_bool Try.underlying4 _), (trodAll_cons_mk (Below.trod laidOut (by kernel_rfl) (of_decide_eq_true (by kernel_rfl)) k0 bel lt0) (trodAll_cons_mk (shut_int Try.underlying3 w1) trodAll_mk0)), rfl, bel.frame _, fun h => by cases h⟩
theorem over : Rows.melWeightsRow.holds Try.pinned (OpenSpec.ofChange Rows.melWeightsSpec) :=
  OpenClaim.holds_of_wide 5 Try.f5 rfl rfl rfl rfl rfl rfl rfl ⟨rfl, rfl, rfl, rfl, rfl⟩ rfl rfl rfl rfl rfl (by kernel_rfl) Try.func5 (by kernel_rfl)
    (of_decide_eq_true (by kernel_rfl)) (by unfold Func.isWrapper; first | (rw [if_pos (by decide +kernel)]; kernel_rfl) | (rw [if_neg (by decide +kernel)]; exact ⟨rfl, rfl⟩))
    (fun os started H enc _ => lifted os started H enc)
theorem proved : Rows.MelWeightsSaid := over
#print axioms proved
end Go.Proofs.Ytohmecfjpmapnaa.melWeights
namespace Go.Proofs.Ytohmecfjpmapnaa
/-- The row, under a short name, for the claim. -/
theorem melWeights_holds : Rows.MelWeightsSaid := melWeights.proved
end Go.Proofs.Ytohmecfjpmapnaa
