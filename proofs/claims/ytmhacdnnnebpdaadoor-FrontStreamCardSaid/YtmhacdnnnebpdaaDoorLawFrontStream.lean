-- Written by a program of this work (wip/tools) for this claim; Lean checks it.
import Derived.Test.YtmhacdnnnebpdaaDoorRows
import Derived.Test.YtmhacdnnnebpdaaDoorPFrontStreamx20
import Derived.Test.YtmhacdnnnebpdaaDoorPureFrontStream
import Derived.Test.YtmhacdnnnebpdaaDoorTie
import Derived.Test.YtmhacdnnnebpdaaDoorCards
import Derived.LaidMore
import Derived.Stop.Joined
import Derived.SevenTiedAt
import Derived.WalkKit
import Derived.ProofKit
import Derived.OpenShut
import Derived.ShutString
import Derived.ChangeOld
import Derived.Below
import Derived.SizedLaws
import Derived.Test.YtmhacdnnnebpdaaDoorVSized
namespace Go.Proofs.YtmhacdnnnebpdaaDoor.frontStream
open Go.ChangeShapes Go.WideShapes Go.ChangeAt Go.RowKit
open Go.ChangeMaps (open_string shut_string)
set_option linter.unusedVariables false
set_option maxRecDepth 100000
theorem own : ownKnob Tryd.prog.godebug = none := by kernel_rfl
theorem laidOut : laidOutB Tryd.prog = true := by kernel_rfl
def IsRow (k : IntKind) (w : World) (a : Option Addr) (len cap : Nat) (zs : List Int) : Prop :=
  (a = none ∧ len = 0 ∧ cap = 0 ∧ zs = []) ∨
  ∃ x, a = some x ∧ len ≤ cap ∧ cap ≤ maxLen ∧ zs.length = cap ∧ (∀ i, i < zs.length → w.cell? (x.add i) = some (.int k (zs.getD i 0))) ∧ ∀ n ∈ zs, (Lit.int k n).wf = true
theorem Agg.open41 {H : Type} {enc : TypeId × Value → H} {W : World} {base b0 : Nat} {sp : Nat → Bool} {hd : Bool} {v : Value} {d : DataW H} {p : List MemPlace} {fuel : Nat} (hv : Value.okWide Tryd.prog W .any b0 41 v)
    (h : DataW.trod enc Tryd.prog W base sp hd fuel 41 v.cells.toList = some (d, p)) : ∃ (a0 : Int) (a1 : Int) (a2 : Int) (a3 : Bool) (a4 : Bool), v = .agg #[.int .i64 a0, .int .i64 a1, .int .i64 a2, .bool a3, .bool a4] ∧ (Lit.int .i64 a0).wf = true ∧ (Lit.int .i64 a1).wf = true ∧ (Lit.int .i64 a2).wf = true ∧ p = [] := by
  have hc : ∃ cs, v = .agg cs ∧ cs.size = Tryd.prog.cellsOf 41 := by
    simp only [Value.okWide, Tryd.underlying41] at hv
    obtain ⟨cs, h1, h2, _⟩ := hv
    exact ⟨cs, h1, h2⟩
  obtain ⟨cs, rfl, hs⟩ := hc
  have hs' : cs.size = 5 := hs.trans (by kernel_rfl)
  obtain ⟨l⟩ := cs
  have ce3 : Tryd.prog.cellsOf 3 = 1 := by kernel_rfl
  have ce4 : Tryd.prog.cellsOf 4 = 1 := by kernel_rfl
  match l, hs' with
  | [c0, c1, c2, c3, c4], _ =>
    obtain ⟨xs, m, _, hx, _, hl, hf⟩ := DataW.trod_struct Tryd.underlying41 h
    match xs, hl with
    | [y0, y1, y2, y3, y4], _ =>
      have h0 := hf 0 _ rfl
      have h1 := hf 1 _ rfl
      have h2 := hf 2 _ rfl
      have h3 := hf 3 _ rfl
      have h4 := hf 4 _ rfl
      simp [Value.cells, ce3, ce4] at h0 h1 h2 h3 h4
      obtain ⟨n0, e0, rfl, w0⟩ := DataW.trod_int Tryd.underlying3 h0
      obtain ⟨n1, e1, rfl, w1⟩ := DataW.trod_int Tryd.underlying3 h1
      obtain ⟨n2, e2, rfl, w2⟩ := DataW.trod_int Tryd.underlying3 h2
      obtain ⟨n3, e3, rfl⟩ := DataW.trod_bool Tryd.underlying4 h3
      obtain ⟨n4, e4, rfl⟩ := DataW.trod_bool Tryd.underlying4 h4
      simp only [List.cons.injEq, and_true] at e0 e1 e2 e3 e4
      simp only [Prod.mk.injEq] at hx
      obtain ⟨_, rfl⟩ := hx
      exact ⟨n0, n1, n2, n3, n4, by rw [e0, e1, e2, e3, e4], w0, w1, w2, by simp⟩
abbrev laidU : List (String × DataW Unit) := [("earshot/circle.cosines", Rows.laid_earshot_circle_cosines)]
theorem gCos : Tryd.prog.globalNamed "earshot/circle.cosines" = some 0 := by kernel_rfl
theorem tCos : (Tryd.prog.globals[0]?).map (·.type) = some 89 := by kernel_rfl
theorem door_met (os : Os) (args : Array Value) : laidMetH Tryd.prog laidU ((World.doorLaid Tryd.prog 400 os).forCall (fun _ _ => 0) ⟨#[], args, []⟩).memory :=
  laidMetH_of_parts3 (fuel := 8) (laidMet_of_run' 8 (by kernel_rfl) (by kernel_rfl)) (by kernel_rfl) (by kernel_rfl)
theorem of_laid {W : World} (h : laidMetH Tryd.prog laidU W) : PFrontStream.GlobA W := by
  rw [MakeChecks.laidMetH_plain _ _ _ (by kernel_rfl)] at h
  obtain ⟨ps, ⟨g0, t0, cs0, f0, p0, q0, hg0, ht0, hv0, hd0, _, _⟩, _, _⟩ := h
  obtain rfl := Option.some.inj (gCos.symm.trans hg0)
  obtain rfl := Option.some.inj (tCos.symm.trans ht0)
  obtain ⟨xs, m1, rfl, hx1, hlen, hn, hel⟩ := DataW.trod_array Tryd.underlying89 hd0
  have ce : Tryd.prog.cellsOf 3 = 1 := by kernel_rfl
  simp only [Prod.mk.injEq] at hx1
  have hx2 : DataW.agg (PFrontStream.cosTab.map fun c => (DataW.lit (Lit.int .i64 c) : DataW Unit)) = DataW.agg (xs.map (·.1)) := hx1.1
  injection hx2 with hx3
  have hcs : ∀ j : Nat, j < 17 → cs0[j]? = some (.int .i64 (PFrontStream.cosTab.getD j 0)) := by
    intro j hj
    have h1 := hel j hj
    rw [ce, Nat.mul_one] at h1
    have hjx : j < xs.length := by omega
    rw [List.getElem?_eq_getElem hjx] at h1
    obtain ⟨k, e1, e2, _⟩ := DataW.trod_int Tryd.underlying3 h1
    have h2 : (xs.map (·.1))[j]? = some (DataW.lit (Lit.int .i64 k)) := by rw [List.getElem?_map, List.getElem?_eq_getElem hjx, Option.map_some, e2]
    rw [← hx3, List.getElem?_map] at h2
    have hl : j < PFrontStream.cosTab.length := hj
    rw [List.getElem?_eq_getElem hl, Option.map_some] at h2
    injection h2 with h2
    injection h2 with h2
    injection h2 with _ h2
    have hjc : j < cs0.toList.length := by
      rcases Nat.lt_or_ge j cs0.toList.length with h | h
      · exact h
      · rw [List.drop_eq_nil_of_le h] at e1
        simp at e1
    rw [List.drop_eq_getElem_cons hjc, List.take_succ_cons, List.take_zero] at e1
    injection e1 with e1 _
    rw [← Array.getElem?_toList, List.getElem?_eq_getElem hjc, e1, List.getD_eq_getElem?_getD, List.getElem?_eq_getElem hl, ← h2]
    rfl
  have hcell : ∀ j : Nat, j < 17 → W.cell? ⟨0, j, none⟩ = some (.int .i64 (PFrontStream.cosTab.getD j 0)) := by
    intro j hj
    have h1 := World.var?_cell hg0 hv0 j
    rw [hcs j hj] at h1
    exact h1
  exact ⟨World.block_lt_of_cell? W _ (hcell 0 (by decide)), hcell⟩
set_option maxRecDepth 100000 in
theorem lifted (os : Os) (started : os.Started) (H : Type) (enc : TypeId × Value → H) :
    ReturnsInHanded {} Tryd.checked os 9 .any (fun w args => (Rows.frontStreamSpec.pre enc Tryd.prog Tryd.f9 [] false w args ∧ laidMetH Tryd.prog laidU w) ∧ sizedMet enc Tryd.prog Tryd.f9 (OpenSpec.ofChange Rows.frontStreamSpec) false w args)
      (Rows.frontStreamSpec.post enc Tryd.prog Tryd.f9 false true false false) := by
  refine returnsInHanded_of_change_and (C := Tryd.checked) (X := fun w _ => laidMetH Tryd.prog laidU w) (fun _ _ _ hh h => h.of_heap hh) own started (by kernel_rfl) Tryd.func9
    (ChangeSpec.witness_shaped (enc := enc) (C := Tryd.checked) (os := os) (X := fun w _ => laidMetH Tryd.prog laidU w) false (World.doorLaid Tryd.prog 400 os) #[.agg #[.int .i64 0, .int .i64 0, .int .i64 0, .bool false, .bool false], .slice none 0 0, .slice none 0 0] 8 rfl (World.shaped_of_RefB (by kernel_rfl) (by kernel_rfl)) (by kernel_rfl) (by kernel_rfl) (by kernel_rfl) (door_met os _)) ?_
  intro W base args ds gs before hval0 hW hcnd hsz0 hL _
  have hsz : (DataW.weightsEach Tryd.prog (Tryd.f9.params.toList ++ Rows.frontStreamSpec.plain.varTypes Tryd.prog) (ds ++ gs)).all (· ≤ reachBytes) = true := hsz0
  have hval : ∀ (j : Nat) t v, Tryd.f9.params[j]? = some t → args[j]? = some v → Value.okWide Tryd.prog W .any base t v := hval0
  have hW' := hW
  obtain ⟨p, q, hA0, hV, rfl, hfz, hnd⟩ := hW
  have hA : DataW.TrodAll enc Tryd.prog W 0 (fun _ => true) true Tryd.f9.params.toList args.toList ds p := hA0
  rw [Tryd.params9] at hA hval hsz
  obtain ⟨v0, vs0, d0, ds0, p0, q0, hargs, rfl, rfl, h0, r0⟩ := trodAll_cons hA
  obtain ⟨v1, vs1, d1, ds1, p1, q1, rfl, rfl, rfl, h1, r1⟩ := trodAll_cons r0
  obtain ⟨v2, vs2, d2, ds2, p2, q2, rfl, rfl, rfl, h2, r2⟩ := trodAll_cons r1
  obtain ⟨rfl, rfl, rfl⟩ := trodAll_nil r2
  obtain rfl : args = #[v0, v1, v2] := by cases args; simp_all
  obtain ⟨rfl, rfl⟩ := trodVars_none hV
  have k0 := h0
  obtain ⟨fuel0, hf0⟩ := h0
  obtain ⟨a0_0, a0_1, a0_2, a0_3, a0_4, rfl, w0_0, w0_1, w0_2, rfl⟩ := Agg.open41 (hval 0 41 v0 rfl rfl) hf0
  have lt0 : ∀ x ∈ ([] : List MemPlace), x.block < W.heap.size := fun x hx => by cases hx
  obtain ⟨a1, len1, cap1, rfl⟩ := okWide_slice Tryd.underlying22 (hval 1 22 v1 rfl rfl)
  have k1 := h1
  have lt1 : ∀ x ∈ p1, x.block < W.heap.size := by obtain ⟨m, hm⟩ := k1; exact DataW.trod_lt m _ _ _ hm
  obtain ⟨z1, w1⟩ : ∃ zs, IsRow .i64 W a1 len1 cap1 zs := by
    obtain ⟨fuel, hf⟩ := h1
    rcases open_ints Tryd.underlying22 Tryd.underlying3 (by kernel_rfl) hf with ⟨hcs, _⟩ | ⟨x, l, c, zs, hcs, _, hl, hm, hz, _, hcell, hwz⟩
    · simp [Value.cells] at hcs
      obtain ⟨rfl, rfl, rfl⟩ := hcs
      exact ⟨[], .inl ⟨rfl, rfl, rfl, rfl⟩⟩
    · simp [Value.cells] at hcs
      obtain ⟨rfl, rfl, rfl⟩ := hcs
      exact ⟨zs, .inr ⟨_, rfl, hl, hm, by simpa using hz, hcell, hwz⟩⟩
  have y1 : len1 * 8 ≤ 140737488351232 := Go.Proofs.YtmhacdnnnebpdaaDoorW.PrintWords.sized_ints hsz (j := 1) (t := 22) rfl rfl Tryd.underlying22 Tryd.underlying3 (by kernel_rfl) (by kernel_rfl) h1
  obtain ⟨a2, len2, cap2, rfl⟩ := okWide_slice Tryd.underlying22 (hval 2 22 v2 rfl rfl)
  have k2 := h2
  have lt2 : ∀ x ∈ p2, x.block < W.heap.size := by obtain ⟨m, hm⟩ := k2; exact DataW.trod_lt m _ _ _ hm
  obtain ⟨z2, w2⟩ : ∃ zs, IsRow .i64 W a2 len2 cap2 zs := by
    obtain ⟨fuel, hf⟩ := h2
    rcases open_ints Tryd.underlying22 Tryd.underlying3 (by kernel_rfl) hf with ⟨hcs, _⟩ | ⟨x, l, c, zs, hcs, _, hl, hm, hz, _, hcell, hwz⟩
    · simp [Value.cells] at hcs
      obtain ⟨rfl, rfl, rfl⟩ := hcs
      exact ⟨[], .inl ⟨rfl, rfl, rfl, rfl⟩⟩
    · simp [Value.cells] at hcs
      obtain ⟨rfl, rfl, rfl⟩ := hcs
      exact ⟨zs, .inr ⟨_, rfl, hl, hm, by simpa using hz, hcell, hwz⟩⟩
  have y2 : len2 * 8 ≤ 140737488351232 := Go.Proofs.YtmhacdnnnebpdaaDoorW.PrintWords.sized_ints hsz (j := 2) (t := 22) rfl rfl Tryd.underlying22 Tryd.underlying3 (by kernel_rfl) (by kernel_rfl) h2
  clear hA0 hval0 hsz0 hsz
  refine (PFrontStream.earshotlaw13_FrontStream.walk Pure.FrontStream a0_0 a0_1 a0_2 a0_3 a0_4 a1 len1 cap1 z1 a2 len2 cap2 z2 W w0_0 w0_1 w0_2 w1 y1 w2 y2 (of_laid hL)).mono fun e W' ⟨he, bel⟩ => ?_
  subst he
  exact ⟨_, rfl, _, _, _, [], _, [], hW', trodAll_mk1 (shut_bool Tryd.underlying4 _), (trodAll_cons_mk (Below.trod laidOut (by kernel_rfl) (of_decide_eq_true (by kernel_rfl)) k0 bel lt0) (trodAll_cons_mk (Below.trod laidOut (by kernel_rfl) (of_decide_eq_true (by kernel_rfl)) k1 bel lt1) (trodAll_cons_mk (Below.trod laidOut (by kernel_rfl) (of_decide_eq_true (by kernel_rfl)) k2 bel lt2) trodAll_mk0))), rfl, bel.frame _, fun h => by cases h⟩
theorem over : Rows.frontStreamRow.holds Tryd.pinned (OpenSpec.ofChange Rows.frontStreamSpec) :=
  OpenClaim.holds_of_wide 9 Tryd.f9 rfl rfl rfl rfl rfl rfl rfl ⟨rfl, rfl, rfl, rfl, rfl⟩ rfl rfl rfl rfl rfl (by kernel_rfl) Tryd.func9 (by kernel_rfl)
    (of_decide_eq_true (by kernel_rfl)) (by unfold Func.isWrapper; first | (rw [if_pos (by decide +kernel)]; kernel_rfl) | (rw [if_neg (by decide +kernel)]; exact ⟨rfl, rfl⟩))
    (fun os started H enc _ => lifted os started H enc)
theorem proved : Rows.FrontStreamCardSaid :=
  Claim7.holds_tied_plain_at .later [] [.data] true (true, "acf9609300405bc69908821f0a489668cbf2064c0067e46138444bb57b028e7c") false
    over (fun _ h => by cases h) (by kernel_rfl) (fun _ h => by cases h) frontStream_row_tie rfl ⟨rfl, rfl⟩ (by kernel_rfl) rfl
    (fun f fn hf hfn => by
      obtain rfl : f = 9 := Option.some.inj ((show Tryd.prog.funcNamed "earshot/earshotlaw13.FrontStream" = some 9 by kernel_rfl).symm.trans hf) |>.symm
      obtain rfl : fn = Tryd.f9 := (Option.some.inj (Tryd.func9.symm.trans hfn)).symm
      exact ⟨by kernel_rfl, fun j t ht => by
        rw [Tryd.params9] at ht
        have hm : t ∈ [41, 22, 22] := by simpa using Array.mem_of_getElem? ht
        have hall : ([41, 22, 22].all fun u => !Tryd.prog.wantsStandIn u) = true := by kernel_rfl
        exact (show Tryd.prog.wantsStandIn t = false by simpa using List.all_eq_true.1 hall t hm)⟩)
    (by kernel_rfl)
#print axioms proved
end Go.Proofs.YtmhacdnnnebpdaaDoor.frontStream
namespace Go.Proofs.YtmhacdnnnebpdaaDoor
/-- The row, under a short name, for the claim. -/
theorem frontStream_holds : Rows.FrontStreamCardSaid := frontStream.proved
end Go.Proofs.YtmhacdnnnebpdaaDoor
