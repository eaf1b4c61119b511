-- Written by a program of this work (wip/tools) for this claim; Lean checks it.
import Derived.Test.YtmhacdnnnebpdaaDoorPFrontStreamx7
namespace Go.Proofs.YtmhacdnnnebpdaaDoor.PFrontStream
open Go.RowKit Go.Proofs.YtmhacdnnnebpdaaDoorW.PrintWords Go.Proofs.YtmhacdnnnebpdaaDoorW.PrintLast Go.Proofs.YtmhacdnnnebpdaaDoorW.PrintMore
attribute [local go_sem] max2_int min2_int max_two min_two max_three min_three max_four min_four   -- for this text's walks alone
set_option linter.unusedVariables false
set_option linter.unusedSimpArgs false
structure Keeps (w w' : World) (g : Nat) (row : Option Nat) : Prop where
 os : w'.os = w.os
 tape : w'.tape = w.tape
 output : w'.output = w.output
 size : w.heap.size ≤ w'.heap.size
 block : ∀ i, i < w.heap.size → i ≠ g → some i ≠ row → w'.heap[i]? = w.heap[i]?
theorem Keeps.refl (w : World) (g : Nat) (row : Option Nat) : Keeps w w g row := ⟨rfl, rfl, rfl, Nat.le_refl _, fun _ _ _ _ => rfl⟩
theorem Keeps.below {w w1 w2 : World} {g : Nat} {row : Option Nat} (h : Keeps w w1 g row) (hb : Below w1.heap.size w1 w2) : Keeps w w2 g row :=
 ⟨hb.os.trans h.os, hb.tape.trans h.tape, hb.output.trans h.output, Nat.le_trans h.size hb.size, fun i hi hg hr => (hb.block i (Nat.lt_of_lt_of_le hi h.size)).trans (h.block i hi hg hr)⟩
theorem Keeps.set {w w1 : World} {g : Nat} {row : Option Nat} (h : Keeps w w1 g row) (j : Nat) (u : Value) : Keeps w (w1.setCell ⟨g, j, none⟩ u) g row :=
 ⟨h.os, h.tape, h.output, by simpa [World.setCell] using h.size, fun i hi hg hr => (Below.heap_setCell w1 ⟨g, j, none⟩ u i hg).trans (h.block i hi hg hr)⟩
theorem Keeps.grown {w w1 w2 : World} {g : Nat} {row r1 : Option Nat} (h : Keeps w w1 g row) (hg : w1.grownBy w2 r1) (hr : ∀ k, r1 = some k → some k = row ∨ w.heap.size ≤ k) : Keeps w w2 g row :=
 ⟨hg.os.trans h.os, hg.tape.trans h.tape, hg.output.trans h.output, Nat.le_trans h.size hg.size, fun i hi hgi hri => by
  refine (hg.block i (Nat.lt_of_lt_of_le hi h.size) (fun e => ?_)).trans (h.block i hi hgi hri)
  rcases hr i e.symm with h1 | h1
  · exact hri h1
  · omega⟩
theorem Keeps.trans {w w1 w2 : World} {g : Nat} {row r1 : Option Nat} (h : Keeps w w1 g row) (k : Keeps w1 w2 g r1) (hr : ∀ b, r1 = some b → some b = row ∨ w.heap.size ≤ b) : Keeps w w2 g row :=
 ⟨k.os.trans h.os, k.tape.trans h.tape, k.output.trans h.output, Nat.le_trans h.size k.size, fun i hi hgi hri => by
  refine (k.block i (Nat.lt_of_lt_of_le hi h.size) hgi (fun e => ?_)).trans (h.block i hi hgi hri)
  rcases hr i e.symm with h1 | h1
  · exact hri h1
  · omega⟩
theorem Keeps.alloc {w w1 : World} {g : Nat} {row : Option Nat} (h : Keeps w w1 g row) (o : Obj) : Keeps w (w1.alloc o) g row := h.below (below_alloc (Below.refl _ _) o)
theorem Keeps.drew {w w1 : World} {g : Nat} {row : Option Nat} (h : Keeps w w1 g row) : Keeps w w1.drew g row := h.below (below_drew (Below.refl _ _))
theorem Keeps.drewN {w w1 : World} {g : Nat} {row : Option Nat} (h : Keeps w w1 g row) (m : Nat) : Keeps w (w1.drewN m) g row := h.below (pw_below_drewN (Below.refl _ _) m)
theorem Keeps.blk {w w1 : World} {g g' : Nat} {row : Option Nat} {o : Obj} (h : Keeps w w1 g row) (hb : w.heap[g']? = some o) (hg : g' ≠ g) (hr : some g' ≠ row) : w1.heap[g']? = some o := (h.block g' (blk_lt hb) hg hr).trans hb
theorem Keeps.R {α : Type} {d : Kd α} {e base : Nat} {ok : Nat → Prop} {v : Value} {xs : List α} {w w1 : World} {g : Nat} {row : Option Nat} (h : Keeps w w1 g row) (hR : d.R e w base ok v xs) (hok : ∀ k, ok k → k ≠ g ∧ some k ≠ row) : d.R e w1 base ok v xs :=
 Kd.R_step hR (fun k hk hlt => h.block k hlt (hok k hk).1 (hok k hk).2)
theorem Keeps.cell {w w1 : World} {g : Nat} {row : Option Nat} (h : Keeps w w1 g row) {a : Addr} {v : Value} (hc : w.cell? a = some v) (hg : a.block ≠ g) (hr : some a.block ≠ row) : w1.cell? a = some v :=
 (World.cell?_of_block (h.block a.block (World.block_lt_of_cell? w a hc) hg hr)).trans hc
theorem Keeps.C {w w1 : World} {g : Nat} {row : Option Nat} (h : Keeps w w1 g row) {A : Option Addr} {n : Nat} {xs : List Int} (hC : (Kd.int .i64).C w A n xs) (hA : ∀ ad, A = some ad → 0 < n → ad.block ≠ g ∧ some ad.block ≠ row) : (Kd.int .i64).C w1 A n xs := by
 obtain ⟨h1, h2, h3⟩ := Kd.reads_of_C (enc := Value.int .i64) (h1 := fun _ => rfl) (d := (0 : Int)) hC
 exact Kd.C_of_reads (enc := Value.int .i64) (h1 := fun _ => rfl) (d := (0 : Int)) ⟨h1, h2, fun hn => by
  obtain ⟨ad, e, hc⟩ := h3 hn
  obtain ⟨k1, k2⟩ := hA ad e hn
  exact ⟨ad, e, fun j hj => h.cell (hc j hj) (by rw [add_block]; exact k1) (by rw [add_block]; exact k2)⟩⟩
theorem Keeps.toBelow {w w1 : World} {g B : Nat} {row : Option Nat} (h : Keeps w w1 g row) (hB : B ≤ w.heap.size) (hg : B ≤ g) (hr : ∀ k, row = some k → B ≤ k) : Below B w w1 :=
 ⟨h.os, h.tape, h.output, h.size, fun i hi => h.block i (by omega) (by omega) (fun e => by have := hr i e.symm; omega)⟩
theorem Keeps.glob {w w1 : World} {g : Nat} {row : Option Nat} (h : Keeps w w1 g row) (hG : GlobA w) (hg : 1 ≤ g) (hr : ∀ k, row = some k → 1 ≤ k) : GlobA w1 :=
 ⟨Nat.lt_of_lt_of_le hG.1 h.size, fun j hj => h.cell (hG.2 j hj) (by show 0 ≠ g; omega) (fun e => by have := hr 0 e.symm; omega)⟩
def strC (s h b c p cnt last : Int) (v : Value) : Array Value := #[.int .i64 s, .int .i64 h, .int .i64 b, .int .i64 c, .int .i64 p, .int .i64 cnt, .int .i64 last, v]
def StrAt (w : World) (g b0 : Nat) (s h b c p cnt last : Int) (v : Value) (rest : List Int) : Prop :=
 w.heap[g]? = some (.cells (strC s h b c p cnt last v) 86 (0, 0)) ∧ b0 ≤ g ∧ (Kd.int .i64).R 3 w b0 (fun _ => True) v rest
theorem int_ne_str : 3 ≠ 86 := by decide
theorem StrAt.ne {w : World} {g b0 : Nat} {s h b c p cnt last : Int} {v : Value} {rest : List Int} (H : StrAt w g b0 s h b c p cnt last v rest) : ∀ k, v.ownBlock = some k → k ≠ g ∧ b0 ≤ k ∧ k < w.heap.size := by
 obtain ⟨h1, h2, h3⟩ := H
 intro k hk
 obtain ⟨inner, ho⟩ := Kd.R_own h3
 obtain ⟨cells, hc⟩ := own_typed ho k hk
 exact ⟨blk_ne hc h1 int_ne_str, own_base ho k hk, own_lt ho k hk⟩
def preS (p last x : Int) : Int := x - divR (p * last) 32768
def flatL (p : Int) : Int → List Int → List Int
 | _, [] => []
 | last, x :: xs => preS p last x :: flatL p x xs
def lastL : Int → List Int → Int
 | last, [] => last
 | _, x :: xs => lastL x xs
theorem flatL_length (p : Int) : ∀ (last : Int) (xs : List Int), (flatL p last xs).length = xs.length
 | _, [] => rfl
 | last, x :: xs => by rw [flatL, List.length_cons, List.length_cons, flatL_length p x xs]
theorem flatL_snoc (p : Int) : ∀ (last : Int) (xs : List Int) (x : Int), flatL p last (xs ++ [x]) = flatL p last xs ++ [preS p (lastL last xs) x]
 | _, [], x => rfl
 | last, y :: xs, x => by show preS p last y :: flatL p y (xs ++ [x]) = _; rw [flatL_snoc p y xs x]; rfl
theorem lastL_snoc : ∀ (last : Int) (xs : List Int) (x : Int), lastL last (xs ++ [x]) = x
 | _, [], _ => rfl
 | _, y :: xs, x => lastL_snoc y xs x
theorem lastL_in {last : Int} {xs : List Int} (h : -32768 ≤ last ∧ last ≤ 32767) (hx : ∀ x ∈ xs, -32768 ≤ x ∧ x ≤ 32767) : -32768 ≤ lastL last xs ∧ lastL last xs ≤ 32767 := by
 induction xs generalizing last with
 | nil => exact h
 | cons y ys ih => exact ih (hx y List.mem_cons_self) (fun z hz => hx z (List.mem_cons_of_mem _ hz))
theorem take_snoc (xs : List Int) (i : Nat) (hi : i < xs.length) : xs.take (i + 1) = xs.take i ++ [xs.getD i 0] := by
 rw [List.take_add_one, List.getD_eq_getElem?_getD, List.getElem?_eq_getElem hi]; rfl
theorem pre_small {p last : Int} (hp : 0 ≤ p ∧ p < 32768) (hl : -32768 ≤ last ∧ last ≤ 32767) : -1073741824 ≤ p * last ∧ p * last ≤ 1073741824 := by
 have h : (p * last).natAbs ≤ 32768 * 32768 := by rw [Int.natAbs_mul]; exact Nat.mul_le_mul (by omega) (by omega)
 omega
theorem divR_15 (x : Int) : divR x 32768 = (x + 16384) / 32768 := by
 unfold divR
 rw [if_neg (by decide)]
 split <;> omega
theorem half15 {x : Int} (h : -9223372036854775808 ≤ x ∧ x ≤ 9223372036854775807) : round_Half.f x 15 = some (divR x 32768) := by
 have := half_gen h.1 h.2 15 (by decide)
 simpa using this
theorem put_R {wc : World} {g b0 b1 : Nat} {V X : Value} {l : List Int} (h : (Kd.int .i64).R 3 wc b1 (fun _ => True) V l) (hb : b0 ≤ b1) (hg : g < b1) : (Kd.int .i64).R 3 (wc.setCell ⟨g, 7, none⟩ X) b0 (fun _ => True) V l := by
 have h1 : (Kd.int .i64).R 3 wc b1 (fun q => b1 ≤ q) V l := Kd.R_mono (Kd.R_bound h) (fun q hq => hq.2.1)
 exact Kd.R_lower (Kd.R_mono (Kd.R_far h1 (p := ⟨g, 7, none⟩) (fun q hq => by show q ≠ g; omega) X) (fun _ _ => trivial)) hb
theorem put_R2 {w4 wc : World} {g B : Nat} {ok ok' : Nat → Prop} {V X : Value} {l : List (List Int)} (h : R2 w4 B ok V l) (hc : Below w4.heap.size w4 wc) (hg : g < B) (hok : ∀ q, q < w4.heap.size → ok' q) : R2 (wc.setCell ⟨g, 7, none⟩ X) B ok' V l := by
 have h1 : R2 w4 B (fun q => B ≤ q ∧ q < w4.heap.size) V l := Kd.R_mono (Kd.R_bound h) (fun q hq => ⟨hq.2.1, hq.2.2.1⟩)
 have h2 : R2 wc B (fun q => B ≤ q ∧ q < w4.heap.size) V l := Kd.R_below h1 hc
 exact Kd.R_mono (Kd.R_far h2 (p := ⟨g, 7, none⟩) (fun q hq => by show q ≠ g; omega) X) (fun q hq => hok q hq.2)
theorem eql_nil (w : World) (a : Option Addr) (n c : Nat) : (binOp .eql 22 (.slice a n c) (.slice none 0 0)).run Tryd.prog w = .ok (.bool a.isNone) w := by
 simp only [binOp]
 simp [run_equal_slice_nil w _ _ a n c Tryd.underlying22]
set_option maxHeartbeats 16000000 in
set_option maxRecDepth 100000 in
theorem clone_go (A : Option Addr) (c n : Nat) (l : List Int) (w : World) (hl : l.length = n) (hC : (Kd.int .i64).C w A n l) (hn : n ≤ 1000000) :
  Calls Tryd.prog 66 #[.slice A n c] w fun e w' => ∃ v, e = .returned v ∧ Kd.R (Kd.int .i64) 3 w' w.heap.size (fun _ => True) v l ∧ Below w.heap.size w w' := by
 have hu22 := Tryd.underlying22
 have q22 := eql_nil
 have HC := Aside0.mk hC
 have HL := Aside0.mk hl
 obtain ⟨i0, hi0, hz0, hz1, hz2⟩ := info_parts turn_info
 cases A with
 | none =>
   have h0 : n = 0 := by
    rcases Nat.eq_zero_or_pos n with h | h
    · exact h
    ·
     obtain ⟨ad, h1, _⟩ := sp_ad hC h
     cases h1
   have HE : Aside0 (l = []) := ⟨List.eq_nil_of_length_eq_zero (by rw [hl, h0])⟩
   clear hC hl
   go_enter Tryd.func66, Tryd.ntmps66
   go_wp2
   go_ret
   exact ⟨_, rfl, by rw [HE.out]; exact Kd.R_nil _ _ _ _ _, by repeat (first | exact Below.refl _ _ | apply pw_below_drewN)⟩
 | some ad =>
   have OE : Aside0 ((w.alloc (.cells #[] 3)).ownsRow w.heap.size 3 1 (.slice (some ⟨w.heap.size, 0, none⟩) 0 0) 0 []) := ⟨by
    have h := own_made w w.heap.size 3 .i64 0 (Nat.le_refl _) (by omega)
    have e : madeCells #[Value.int .i64 0] 0 = #[] := by first | rfl | simp [madeCells]
    rw [e] at h
    exact h⟩
   have HR0 : Aside0 ((Kd.int .i64).R 3 (w.alloc (.cells #[] 3)) w.heap.size (fun _ => True) (.slice (some ⟨w.heap.size, 0, none⟩) 0 0) []) := ⟨Kd.R_of_own (enc := Value.int .i64) (h1 := fun _ => rfl) (ok := fun _ => True) (xs := []) OE.out (fun _ _ => trivial)⟩
   have HC2 := Aside0.mk (Kd.C_alloc hC (.cells #[] 3))
   have hb : Below w.heap.size w (w.alloc (.cells #[] 3)) := below_alloc (Below.refl _ _) _
   have HB := Aside0.mk hb
   clear hC hl hb
   go_enter Tryd.func66, Tryd.ntmps66
   go_wp2_with (first
    | ((with_reducible refine gate_builtin (b := .append) (xs := #[.tmp 5, .tmp 6]) rfl ?_); at_builtin; refine Kd.R_append_row (Value.int .i64) (0 : Int) (h1 := fun _ => rfl) (w0 := w) w.heap.size rfl (.tmp 5) (.tmp 6) 22 3 (.int .i64 0) 8 rfl Tryd.underlying22 turn_info rfl (by decide) (.slice (some ⟨w.heap.size, 0, none⟩) 0 0) [] l (some ad) n c (fun _ => True) rfl rfl (fun _ _ => trivial) HR0.out HC2.out HB.out HB.out.size (by simp; omega) ?_; intro v1 w1 h1 h2 h3 h4; have HV1 := Aside0.mk h1; have HB1 := Aside0.mk h2; clear h1 h2 h3 h4))
   go_ret
   exact ⟨_, rfl, HV1.out, HB1.out⟩
def cutN (s h b c p : Int) : Nat → List Int → List (List Int) × List Int
 | 0, r => ([], r)
 | k + 1, r => if s.toNat ≤ r.length then (frameF s h b c p (r.take s.toNat) :: (cutN s h b c p k (r.drop h.toNat)).1, (cutN s h b c p k (r.drop h.toNat)).2) else ([], r)
theorem cutN_len (s h b c p : Int) : ∀ (k : Nat) (r : List Int), (cutN s h b c p k r).1.length ≤ k
 | 0, _ => by simp [cutN]
 | k + 1, r => by
   unfold cutN
   split
   ·
    rw [List.length_cons]
    have := cutN_len s h b c p k (r.drop h.toNat)
    omega
   · simp
theorem cutN_yes (s h b c p : Int) (k : Nat) (r : List Int) (hr : s.toNat ≤ r.length) : cutN s h b c p (k + 1) r = (frameF s h b c p (r.take s.toNat) :: (cutN s h b c p k (r.drop h.toNat)).1, (cutN s h b c p k (r.drop h.toNat)).2) := by
 show (if s.toNat ≤ r.length then _ else _) = _
 rw [if_pos hr]
theorem cutN_no (s h b c p : Int) (k : Nat) (r : List Int) (hr : r.length < s.toNat) : cutN s h b c p k r = ([], r) := by
 cases k with
 | zero => rfl
 | succ k =>
   show (if s.toNat ≤ r.length then _ else _) = _
   rw [if_neg (by omega)]
theorem cutN_more (s h b c p : Int) (hs : 1 ≤ s.toNat) (hh : 1 ≤ h.toNat) : ∀ (k m : Nat) (r : List Int), r.length < k → k ≤ m → cutN s h b c p m r = cutN s h b c p k r
 | 0, _, _, h0, _ => by omega
 | k + 1, m, r, h0, hm => by
   obtain ⟨m, rfl⟩ : ∃ q, m = q + 1 := ⟨m - 1, by omega⟩
   rcases Nat.lt_or_ge r.length s.toNat with hr | hr
   · rw [cutN_no _ _ _ _ _ _ _ hr, cutN_no _ _ _ _ _ _ _ hr]
   ·
    rw [cutN_yes _ _ _ _ _ _ _ hr, cutN_yes _ _ _ _ _ _ _ hr]
    rw [cutN_more s h b c p hs hh k m _ (by rw [List.length_drop]; omega) (by omega)]
def lenOf : Value → Nat
 | .slice _ n _ => n
 | _ => 0
def badPU (x : Int) : Bool := !(decide (-32768 ≤ x) && decide (x < 32768))
theorem one_PU (x : Int) (w : World) : Calls Tryd.prog 64 #[.int .i64 x] w fun e w' => e = .returned (.bool (badPU x)) ∧ Below w.heap.size w w' := by
 have HF : Aside0 (front_sample.f x = some (decide (-32768 ≤ x) && decide (x < 32768))) := ⟨by unfold front_sample.f; split <;> rename_i h <;> simp <;> omega⟩
 unfold badPU
 generalize (decide (-32768 ≤ x) && decide (x < 32768)) = r at *
 go_enter Tryd.func64, Tryd.ntmps64
 go_wp2_with (go_at_call 65; (with_reducible refine (front_sample.calls _ _ _ HF.out).mono ?_); rintro e_ w1 ⟨rfl, ⟨nd, rfl⟩⟩)
 go_ret
 exact ⟨by first | rfl | simp, by repeat (first | exact Below.refl _ _ | apply pw_below_drewN)⟩
set_option maxHeartbeats 16000000 in
theorem index_PU (A : Option Addr) (n c : Nat) (l : List Int) (w : World) (hl : l.length = n) (hC : (Kd.int .i64).C w A n l) :
  Calls Tryd.prog 95 #[.slice A n c, .func (.func 64) #[] #[]] w fun e w' => ∃ r : Int, e = .returned (.int .i64 r) ∧ decide (0 ≤ r) = l.any badPU ∧ Below w.heap.size w w' := by
 have HC := Aside0.mk hC
 have hmax : n ≤ 9223372036854775807 := Kd.C_max hC
 have HB0 : Aside0 (Below w.heap.size w w) := ⟨Below.refl _ _⟩
 have HL := Aside0.mk hl
 clear hC hl
 go_enter Tryd.func95, Tryd.ntmps95
 go_wp2
 go_loopw [5, 8] (fun v5 v wr => ∃ (i : Nat), i ≤ n ∧ v = .int .i64 (i : Int) ∧ Aside0 (∀ j, j < i → badPU (l.getD j 0) = false) ∧ Aside0 (Below w.heap.size w wr)) (fun _ v _ => n - (intOf v).toNat)
 case atStart => exact ⟨0, by omega, rfl, ⟨fun j hj => by omega⟩, HB0⟩
 case round =>
  clear HB0
  obtain ⟨i, hi, rfl, HJ, HB⟩ := hrel
  by_cases hlt : i < n
  ·
   have hC1 := Kd.C_below HC.out HB.out
   obtain ⟨ad, rfl, hcs⟩ := sp_ad hC1 (by omega)
   have k0 := hcs i hlt
   obtain ⟨x, hx⟩ : ∃ x, l.getD i 0 = x := ⟨_, rfl⟩
   rw [hx] at k0
   have HX := Aside0.mk hx
   have HM : Aside0 (x ∈ l) := ⟨by rw [← hx, List.getD_eq_getElem?_getD, List.getElem?_eq_getElem (by rw [HL.out]; exact hlt)]; exact List.getElem_mem _⟩
   have j0 : (0 : Int) ≤ (i : Int) := by omega
   have j1 : (i : Int) < (n : Int) := by omega
   clear hcs hC1 hx
   cases hb : badPU x
   ·
    have HV := Aside0.mk hb
    clear hb
    go_wp2_with (go_at_call 64; (with_reducible refine (one_PU x _).mono ?_); rintro e_ w1 ⟨rfl, B1⟩; rw [HV.out]; have HB1 := Aside0.mk (below_step HB.out B1); clear B1)
    go_roundw
    case rel =>
     refine ⟨i + 1, by omega, by go_num, ⟨fun j hj => ?_⟩, HB1⟩
     by_cases e : j = i
     · subst e; rw [HX.out]; exact HV.out
     · exact HJ.out j (by omega)
    case measure => simp [intOf]; omega
   ·
    have HV := Aside0.mk hb
    clear hb
    go_wp2_with (go_at_call 64; (with_reducible refine (one_PU x _).mono ?_); rintro e_ w1 ⟨rfl, B1⟩; rw [HV.out]; have HB1 := Aside0.mk (below_step HB.out B1); clear B1)
    go_ret
    refine ⟨_, rfl, ?_, HB1.out⟩
    rw [List.any_eq_true.2 ⟨x, HM.out, HV.out⟩, decide_eq_true j0]
  ·
   obtain rfl : n = i := by omega
   go_wp2
   go_ret
   refine ⟨_, rfl, ?_, HB.out⟩
   have : l.any badPU = false := by
    rw [List.any_eq_false]
    intro x hx
    obtain ⟨k, hk, rfl⟩ := List.getElem_of_mem hx
    have := HJ.out k (by rw [← HL.out]; exact hk)
    rw [List.getD_eq_getElem?_getD, List.getElem?_eq_getElem hk] at this
    simp at this ⊢
    exact this
   rw [this]
   exact decide_eq_false (by decide)
theorem contains_PU (A : Option Addr) (n c : Nat) (l : List Int) (w : World) (hl : l.length = n) (hC : (Kd.int .i64).C w A n l) (b : Bool) (hb : l.any badPU = b) :
  Calls Tryd.prog 63 #[.slice A n c, .func (.func 64) #[] #[]] w fun e w' => e = .returned (.bool b) ∧ Below w.heap.size w w' := by
 have HI := Aside0.mk (index_PU A n c l w hl hC)
 rw [hb] at HI
 clear hl hC hb
 go_enter Tryd.func63, Tryd.ntmps63
 go_wp2_with (go_at_call 95; (with_reducible refine HI.out.mono ?_); rintro e_ w1 ⟨r, rfl, hr, B1⟩; have HB1 := Aside0.mk B1; clear B1)
 go_ret
 exact ⟨rfl, HB1.out⟩
theorem push_ok {xs : List Int} (h : xs.any badPU = false) : ∀ x ∈ xs, -32768 ≤ x ∧ x ≤ 32767 := by
 intro x hx
 rw [List.any_eq_false] at h
 have := h x hx
 unfold badPU at this
 rw [Bool.not_eq_true', Bool.and_eq_false_iff, decide_eq_false_iff_not, decide_eq_false_iff_not] at this
 omega
theorem push_rel {w2 : World} {g b0 g2 cap2 : Nat} {s h b c p cnt lst x y : Int} {rv : Value} {RS : List Int} (BK2 : w2.heap[g]? = some (.cells (strC s h b c p cnt lst rv) 86 (0, 0))) (hg : b0 ≤ g)
  (HW2 : w2.ownsRow b0 3 1 (.slice (some ⟨g2, 0, none⟩) (RS.length + 1) cap2) (RS.length + 1) (nums .i64 RS ++ [.int .i64 y])) (hne : g2 ≠ g) :
  StrAt ((w2.setCell ⟨g, 7, none⟩ (.slice (some ⟨g2, 0, none⟩) (RS.length + 1) cap2)).setCell ⟨g, 6, none⟩ (.int .i64 x)) g b0 s h b c p cnt x (.slice (some ⟨g2, 0, none⟩) (RS.length + 1) cap2) (RS ++ [y]) := by
 refine ⟨?_, hg, ?_⟩
 ·
  have := blk_set (blk_set BK2 7 (.slice (some ⟨g2, 0, none⟩) (RS.length + 1) cap2)) 6 (.int .i64 x)
  rw [this]
  rfl
 ·
  have h1 : (nums .i64 (RS ++ [y])) = nums .i64 RS ++ [.int .i64 y] := by simp [nums]
  rw [← h1] at HW2
  have hb : some g ≠ (Value.slice (some ⟨g2, 0, none⟩) (RS.length + 1) cap2).ownBlock := by simpa [Value.ownBlock] using fun h : g = g2 => hne h.symm
  have h2 := own_setCell (own_setCell HW2 (p := ⟨g, 7, none⟩) hb (.slice (some ⟨g2, 0, none⟩) (RS.length + 1) cap2)) (p := ⟨g, 6, none⟩) hb (.int .i64 x)
  exact Kd.R_of_own (enc := Value.int .i64) (h1 := fun _ => rfl) (ok := fun _ => True) (xs := RS ++ [y]) (by rw [List.length_append]; exact h2) (fun _ _ => trivial)
set_option maxHeartbeats 64000000 in
set_option maxRecDepth 100000 in
theorem push_go (A : Option Addr) (c n g b0 N Hp : Nat) (s h b cf p cnt last cn ls : Int) (rest xs R0 T2 : List Int) (T1 : List (List Int)) (v : Value) (w : World) (hG : GlobA w) (hb0 : 1 ≤ b0) (hbw : b0 ≤ w.heap.size)
  (hS : StrAt w g b0 s h b cf p cnt last v rest) (hl : xs.length = n) (hC : (Kd.int .i64).C w A n xs) (hA : ∀ ad, A = some ad → 0 < n → ad.block ≠ g ∧ some ad.block ≠ v.ownBlock)
  (hx : xs.any badPU = false) (hlast : -32768 ≤ last ∧ last ≤ 32767) (hp : 0 ≤ p ∧ p < 32768) (hs : (N : Int) = s) (hN : 0 < N) (hh : (Hp : Int) = h) (hH1 : 1 ≤ Hp) (hHN : Hp ≤ N) (hN64 : N ≤ 64) (hn : n ≤ 100000) (hr : rest.length ≤ 100000) (hc0 : 0 ≤ cnt) (hc1 : cnt ≤ 4611686018427387904)
  (hR0e : rest ++ flatL p last xs = R0) (hT1 : (cutN s h b cf p (R0.length + 1) R0).1 = T1) (hT2 : (cutN s h b cf p (R0.length + 1) R0).2 = T2) (hcn : cnt + (n : Int) = cn) (hls : lastL last xs = ls) :
  Calls Tryd.prog 31 #[.pointer (some ⟨g, 0, none⟩), .slice A n c] w fun e w' => ∃ vo v', e = .returned (.tuple #[vo, .int .i64 0]) ∧ StrAt w' g b0 s h b cf p cn ls v' T2 ∧ R2 w' w.heap.size (fun q => some q ≠ v'.ownBlock) vo T1 ∧ Keeps w w' g v.ownBlock ∧ (∀ k, v'.ownBlock = some k → some k = v.ownBlock ∨ w.heap.size ≤ k) := by
 have hxin := push_ok hx
 subst hs
 subst hh
 have hgw0 : g < w.heap.size := blk_lt hS.1
 have hu49 := Tryd.underlying49
 have hu86 := Tryd.underlying86
 have hu84 := Tryd.underlying84
 have hu39 := Tryd.underlying39
 have hu22 := Tryd.underlying22
 have HCF := Aside0.mk (fun (W : World) (hc : (Kd.int .i64).C W A n xs) => contains_PU A n c xs W hl hc false hx)
 have HS := Aside0.mk hS
 have HC := Aside0.mk hC
 have HG0 := Aside0.mk hG
 have HA := Aside0.mk hA
 have HXL := Aside0.mk hl
 have HXI := Aside0.mk hxin
 obtain ⟨i0, hi0, hz0, hz1, hz2⟩ := info_parts turn_info
 have HR0E := Aside0.mk hR0e
 have HLSE := Aside0.mk hls
 have HT1 : Aside0 (([] : List (List Int)) ++ (cutN (N : Int) (Hp : Int) b cf p (R0.length + 1) R0).1 = T1) := ⟨by rw [hT1]; rfl⟩
 have HT2 := Aside0.mk hT2
 have HCN := Aside0.mk hcn
 have hR0l : R0.length = rest.length + n := by rw [← hR0e, List.length_append, flatL_length, hl]
 have hT1l : T1.length ≤ 200001 := by rw [← hT1]; exact Nat.le_trans (cutN_len _ _ _ _ _ _ _) (by omega)
 clear hR0e hls hT1 hT2 hcn
 have hS_ne := hS.ne
 have hg0 : b0 ≤ g := hS.2.1
 have HLB := Aside0.mk hlast
 have HP := Aside0.mk hp
 clear hS hC hG hA hl hxin hx
 have ST0 : True := trivial
 go_enter Tryd.func31, Tryd.ntmps31
 go_wp2_with (first
  | (go_at_call 63; clear ST0; refine (HCF.out _ (by exact HC.out)).mono ?_; rintro e_ w1 ⟨rfl, B1⟩; have HB1 := Aside0.mk B1; clear B1))
 have SR0 : Aside0 (StrAt w1 g b0 (N : Int) (Hp : Int) b cf p cnt last v (rest ++ flatL p last (xs.take 0))) := ⟨by
  obtain ⟨k1, k2, k3⟩ := HS.out
  exact ⟨blk_below k1 HB1.out, k2, by simpa [flatL] using Kd.R_below k3 HB1.out⟩⟩
 have KP0 : Aside0 (Keeps w w1 g v.ownBlock) := ⟨(Keeps.refl w g _).below HB1.out⟩
 have hfl : ∀ k, (rest ++ flatL p last (xs.take k)).length ≤ 100000 + 100000 := fun k => by have := HXL.out; rw [List.length_append, flatL_length, List.length_take]; omega
 have HFL := Aside0.mk hfl
 have HSN := Aside0.mk hS_ne
 clear hfl hS_ne
 go_loopw [7, 17] (fun _ x wr => ∃ (i : Nat) (lst : Int) (rv : Value), i ≤ n ∧ x = .int .i64 (i : Int) ∧ Aside0 (lst = lastL last (xs.take i)) ∧ Aside0 (StrAt wr g b0 (N : Int) (Hp : Int) b cf p cnt lst rv (rest ++ flatL p last (xs.take i))) ∧ Aside0 (Keeps w wr g v.ownBlock) ∧ Aside0 (∀ k, rv.ownBlock = some k → some k = v.ownBlock ∨ w.heap.size ≤ k)) (fun _ x _ => n - (intOf x).toNat)
 case atStart => exact ⟨0, last, v, by omega, rfl, ⟨rfl⟩, SR0, KP0, ⟨fun k hk => .inl hk.symm⟩⟩
 case round =>
  clear SR0 KP0 HB1
  obtain ⟨i, lst, rv, hi, rfl, HLS, SR, HK, HV⟩ := hrel
  by_cases hlt : i < n
  ·
   have hC1 := HK.out.C HC.out HA.out
   obtain ⟨ad, rfl, hcs⟩ := sp_ad hC1 (by omega)
   have k0 := hcs i hlt
   obtain ⟨x, hxx⟩ : ∃ x, xs.getD i 0 = x := ⟨_, rfl⟩
   rw [hxx] at k0
   have hxb : -32768 ≤ x ∧ x ≤ 32767 := HXI.out x (by rw [← hxx, List.getD_eq_getElem?_getD, List.getElem?_eq_getElem (by rw [HXL.out]; exact hlt)]; exact List.getElem_mem _)
   have hlb : -32768 ≤ lst ∧ lst ≤ 32767 := by rw [HLS.out]; exact lastL_in HLB.out (fun z hz => HXI.out z (List.mem_of_mem_take hz))
   have hps := pre_small HP.out hlb
   obtain ⟨q, hq⟩ : ∃ q, divR (p * lst) 32768 = q := ⟨_, rfl⟩
   have hq2 := hq
   rw [divR_15] at hq2
   obtain ⟨y, hy⟩ : ∃ y, x - q = y := ⟨_, rfl⟩
   have e1 : IntKind.i64.wrap (p * lst) = p * lst := by rw [IntKind.wrap_i64]; omega
   have e2 : IntKind.i64.wrap (x - q) = y := by rw [IntKind.wrap_i64]; omega
   have HH : Aside0 (∀ W : World, Calls Tryd.prog 47 #[.int .i64 (p * lst), .int .i64 15] W fun e w' => e = .returned (.int .i64 q) ∧ Aside0 (Below W.heap.size W w')) := ⟨fun W => by
    have := (round_Half.calls (p * lst) 15 _ W (half15 (x := p * lst) ⟨by omega, by omega⟩))
    rw [hq] at this
    exact this.mono fun e w' ⟨a, k⟩ => ⟨a, ⟨k⟩⟩⟩
   have HNX : Aside0 (rest ++ flatL p last (xs.take (i + 1)) = (rest ++ flatL p last (xs.take i)) ++ [y]) := ⟨by
    rw [take_snoc xs i (by rw [HXL.out]; exact hlt), flatL_snoc, hxx, ← HLS.out, List.append_assoc, preS, hq, hy]⟩
   have HLX : Aside0 (x = lastL last (xs.take (i + 1))) := ⟨by rw [take_snoc xs i (by rw [HXL.out]; exact hlt), lastL_snoc, hxx]⟩
   obtain ⟨RS, hRS⟩ : ∃ R, rest ++ flatL p last (xs.take i) = R := ⟨_, rfl⟩
   have hRL := HFL.out i
   rw [hRS] at SR HNX hRL
   have hne := SR.out.ne
   obtain ⟨s1, s2, s3⟩ := SR.out
   have BK : Aside0 (wr.heap[g]? = some (.cells #[.int .i64 (N : Int), .int .i64 (Hp : Int), .int .i64 b, .int .i64 cf, .int .i64 p, .int .i64 cnt, .int .i64 lst, rv] 86 (0, 0))) := ⟨s1⟩
   have HO : Aside0 (wr.ownsRow b0 3 1 rv RS.length (nums .i64 RS)) := ⟨Kd.own_of_R s3⟩
   have hgne : rv.ownBlock ≠ some g := fun h_ => (hne g h_).1 rfl
   have hgne2 : some g ≠ rv.ownBlock := fun h_ => hgne h_.symm
   have hgw : g < wr.heap.size := blk_lt s1
   have hbw2 : b0 ≤ wr.heap.size := Nat.le_trans hbw HK.out.size
   have HNE := Aside0.mk hne
   have q0 := blk_cell BK.out 0
   have q4 := blk_cell BK.out 4
   have q6 := blk_cell BK.out 6
   have q7 := blk_cell BK.out 7
   have f7 := blk_frozen BK.out 7
   have j0 : (0 : Int) ≤ (i : Int) := by omega
   have j1 : (i : Int) < (n : Int) := by omega
   have HY := Aside0.mk hy
   clear hcs hC1 hxx hxb hlb hps hq hq2 hy hRS hne s1 s2 s3
   go_wp2
   have ST1 : True := trivial
   go_region_law (first
    | (go_simp; go_at_call 47; clear ST1; (with_reducible refine (HH.out _).mono ?_); rintro e_ wk ⟨rfl, B1⟩; have hb := below_then (show Below wr.heap.size wr _ by repeat (first | exact Below.refl _ _ | apply below_alloc | apply pw_below_drewN | apply below_drew1)) (by simp) B1.out; have BK1 := Aside0.mk (blk_below BK.out hb); have HO1 := Aside0.mk (pw_own_below HO.out hb); have HK1 := Aside0.mk (HK.out.below hb); have hgw1 : g < wk.heap.size := blk_lt BK1.out; have hbw3 : b0 ≤ wk.heap.size := Nat.le_trans hbw2 hb.size; clear hb B1; have r4 := blk_cell BK1.out 4; have r6 := blk_cell BK1.out 6; have r7 := blk_cell BK1.out 7; have BA := blk_below BK1.out (below_alloc (Below.refl wk.heap.size wk) (.cells #[.int .i64 y] 3)); have a7 := blk_cell BA 7; clear BA; have ST2 : True := trivial)
    | (clear ST2; refine step_append_lies _ (by rfl) _ _ _ (by rfl) b0 3 i0 _ 1 8 Tryd.underlying22 hi0 hz0 hz1 hz2 rfl (by omega) rv RS.length (nums .i64 RS) (by rfl) (pw_own_below HO1.out (by repeat (first | exact Below.refl _ _ | apply below_alloc | apply pw_below_drewN | apply below_drew1))) ⟨wk.heap.size, 0, none⟩ 1 1 [.int .i64 y] (by rfl) (by rfl) (World.news_of_block (heap_alloc_new _ _)) (by simp [Value.oneCell']) (by omega) (by unfold maxLen; omega) (by omega) (by simp; omega) (wk.heap.size + 1) (by simp) ?_; intro g2 cap2 w2 hown2 hgrow2 hat2 hlt2; have BK2 := Aside0.mk (blk_grown (blk_below BK1.out (show Below wk.heap.size wk _ by repeat (first | exact Below.refl _ _ | apply below_alloc | apply pw_below_drewN | apply below_drew1))) hgrow2 hgne2); have HW2 := Aside0.mk hown2; have HK2 := Aside0.mk ((HK1.out.below (show Below wk.heap.size wk _ by repeat (first | exact Below.refl _ _ | apply below_alloc | apply pw_below_drewN | apply below_drew1))).grown hgrow2 HV.out); have HAT := Aside0.mk hat2; clear hown2 hgrow2 hat2; have t7 := blk_cell BK2.out 7; have f7 := blk_frozen BK2.out 7; have ST3 : True := trivial))
   all_goals
    have BK3 := Aside0.mk (blk_set BK2.out 7 (.slice (some ⟨g2, 0, none⟩) (RS.length + 1) cap2))
    have z6 := blk_cell BK3.out 6
    have fz6 := blk_frozen BK3.out 6
    go_wp2
    go_roundw
    case rel =>
     have hg2 : g2 ≠ g ∧ (some g2 = v.ownBlock ∨ w.heap.size ≤ g2) := by
      rcases HAT.out with h_ | h_
      · exact ⟨(HNE.out g2 h_).1, HV.out g2 h_⟩
      ·
       have := HK1.out.size
       exact ⟨by omega, .inr (by omega)⟩
     refine ⟨i + 1, x, .slice (some ⟨g2, 0, none⟩) (RS.length + 1) cap2, by omega, by go_num, HLX, ⟨by rw [HNX.out]; exact push_rel BK2.out hg0 HW2.out hg2.1⟩, ⟨(HK2.out.set 7 _).set 6 _⟩, ⟨fun k hk => ?_⟩⟩
     injection hk with hk
     subst hk
     exact hg2.2
    case measure => simp [intOf]; omega
  ·
   obtain rfl : n = i := by omega
   have hT : xs.take n = xs := by rw [← HXL.out]; exact List.take_length
   rw [hT] at HLS SR
   rw [HR0E.out] at SR
   rw [HLSE.out] at HLS
   obtain rfl := HLS.out
   have hR0 : R0.length ≤ 200000 := by omega
   have hne := SR.out.ne
   obtain ⟨s1, s2, s3⟩ := SR.out
   have BK : Aside0 (wr.heap[g]? = some (.cells #[.int .i64 (N : Int), .int .i64 (Hp : Int), .int .i64 b, .int .i64 cf, .int .i64 p, .int .i64 cnt, .int .i64 lst, rv] 86 (0, 0))) := ⟨s1⟩
   have hcn := HCN.out
   have e5 : IntKind.i64.wrap (cnt + (n : Int)) = cn := by rw [IntKind.wrap_i64]; omega
   have q5 := blk_cell BK.out 5
   have f5 := blk_frozen BK.out 5
   have SR5 : Aside0 (StrAt (wr.setCell ⟨g, 5, none⟩ (.int .i64 cn)) g b0 (N : Int) (Hp : Int) b cf p cn lst rv R0) := ⟨by
    refine ⟨?_, hg0, ?_⟩
    ·
     have := blk_set BK.out 5 (.int .i64 cn)
     rw [this]; rfl
    · exact Kd.R_mono (ok := fun k => k ≠ g) (Kd.R_far (Kd.R_mono (Kd.R_tight rfl s3) (fun k hk => (hne k hk.symm).1)) (p := ⟨g, 5, none⟩) (fun k hk => hk) _) (fun _ _ => trivial)⟩
   have HK5 : Aside0 (Keeps w (wr.setCell ⟨g, 5, none⟩ (.int .i64 cn)) g v.ownBlock) := ⟨HK.out.set 5 _⟩
   have HG5 : 1 ≤ g := Nat.le_trans hb0 hg0
   have HVB : Aside0 (∀ k, v.ownBlock = some k → 1 ≤ k) := ⟨fun k hk => Nat.le_trans hb0 (HSN.out k hk).2.1⟩
   clear hT hne s1 s2 s3 SR HK HLS hlt hi hcn
   go_wp2
   clear q5 f5 e5 BK
   go_loopw [8] (fun x wr => ∃ (k : Nat) (R : List Int) (out : List (List Int)) (ru : Value), R.length < k ∧ R.length ≤ 200000 ∧ Aside0 (out ++ (cutN (N : Int) (Hp : Int) b cf p k R).1 = T1) ∧ Aside0 ((cutN (N : Int) (Hp : Int) b cf p k R).2 = T2) ∧ Aside0 (StrAt wr g b0 (N : Int) (Hp : Int) b cf p cn lst ru R) ∧ Aside0 (R2 wr w.heap.size (fun q => some q ≠ ru.ownBlock) x out) ∧ Aside0 (Keeps w wr g v.ownBlock) ∧ Aside0 (∀ k, ru.ownBlock = some k → some k = v.ownBlock ∨ w.heap.size ≤ k)) (fun x _ => T1.length - lenOf x)
   case atStart => exact ⟨R0.length + 1, R0, [], rv, by omega, by omega, HT1, HT2, SR5, ⟨Kd.R_nil _ _ _ _ _⟩, HK5, HV⟩
   case round =>
    clear HT1 HT2 SR5 HK5 HV
    obtain ⟨k, R, out, ru, hk, hRl, HT1, HT2, SR, HO, HK, HV⟩ := hrel
    have hne := SR.out.ne
    obtain ⟨s1, s2, s3⟩ := SR.out
    have BK : Aside0 (wr.heap[g]? = some (.cells #[.int .i64 (N : Int), .int .i64 (Hp : Int), .int .i64 b, .int .i64 cf, .int .i64 p, .int .i64 cn, .int .i64 lst, ru] 86 (0, 0))) := ⟨s1⟩
    have hgw : g < wr.heap.size := blk_lt s1
    have q0 := blk_cell BK.out 0
    have q1 := blk_cell BK.out 1
    have q2 := blk_cell BK.out 2
    have q3 := blk_cell BK.out 3
    have q4 := blk_cell BK.out 4
    have q7 := blk_cell BK.out 7
    obtain ⟨Ao, co, ho, hoc, _⟩ := Kd.R_reads HO.out
    by_cases hlt : N ≤ R.length
    ·
     obtain ⟨gr, cr, rfl, hgr1, hgr2, _⟩ := Kd.R_form s3 (by omega)
     have hcr := (Kd.R_reads' s3).2.1
     have d1 : decide ((N : Int) ≤ (R.length : Int)) = true := decide_eq_true (by omega)
     subst ho
     have hsN : (N : Int).toNat = N := by omega
     have hhN : (Hp : Int).toNat = Hp := by omega
     obtain ⟨k, rfl⟩ : ∃ q, k = q + 1 := ⟨k - 1, by omega⟩
     have hcut := cutN_yes (N : Int) (Hp : Int) b cf p k R (by rw [hsN]; exact hlt)
     rw [hsN, hhN] at hcut
     obtain ⟨FR, hFR⟩ : ∃ F, frameF (N : Int) (Hp : Int) b cf p (R.take N) = F := ⟨_, rfl⟩
     rw [hFR] at hcut
     have HT1' : Aside0 ((out ++ [FR]) ++ (cutN (N : Int) (Hp : Int) b cf p k (R.drop Hp)).1 = T1) := ⟨by rw [← HT1.out, hcut, List.append_assoc]; rfl⟩
     have HT2' : Aside0 ((cutN (N : Int) (Hp : Int) b cf p k (R.drop Hp)).2 = T2) := ⟨by rw [← HT2.out, hcut]⟩
     have hol : out.length + 1 ≤ T1.length := by rw [← HT1.out, hcut, List.length_append, List.length_cons]; omega
     have hRC := R_C s3
     have HRC := Aside0.mk hRC
     have HTK : Aside0 ((Kd.int .i64).C wr (some ⟨gr, 0, none⟩) N (R.take N)) := ⟨by
      have := Kd.C_take hRC (m := N) hlt
      rwa [show (R.take N).length = N by rw [List.length_take]; omega] at this⟩
     have HDP : Aside0 ((Kd.int .i64).C wr (if cr = Hp then some ⟨gr, 0, none⟩ else some (Addr.add ⟨gr, 0, none⟩ Hp)) (R.length - Hp) (R.drop Hp)) := ⟨by
      have := Kd.C_drop hRC (m := Hp) (c := cr) (by omega) hcr
      rw [show (R.drop Hp).length = R.length - Hp by rw [List.length_drop], show Hp * (Kd.int IntKind.i64).sz = Hp by show Hp * 1 = Hp; omega] at this
      simpa using this⟩
     have HTL : Aside0 ((R.take N).length = N) := ⟨by rw [List.length_take]; omega⟩
     have HDL : Aside0 ((R.drop Hp).length = R.length - Hp) := ⟨by rw [List.length_drop]⟩
     have HRW : Aside0 ((Kd.int .i64).R 3 wr b0 (fun _ => True) (.slice (some ⟨gr, 0, none⟩) R.length cr) R) := ⟨s3⟩
     have hgr0 := hne gr rfl
     have HFRM : Aside0 (∀ W : World, GlobA W → (Kd.int .i64).C W (some ⟨gr, 0, none⟩) N (R.take N) → Calls Tryd.prog 24 #[.agg #[.int .i64 (N : Int), .int .i64 (Hp : Int), .int .i64 b, .int .i64 cf, .int .i64 p], .slice (some ⟨gr, 0, none⟩) N cr] W fun e w' => ∃ v, e = .returned v ∧ Aside0 (Kd.R (Kd.int .i64) 3 w' W.heap.size (fun _ => True) v FR) ∧ Aside0 (Below W.heap.size W w')) := ⟨fun W hg hc => (frame_go _ cr N (N : Int) (Hp : Int) b cf p _ W hg HTL.out hc).mono fun e w' ⟨v, a, r, q⟩ => ⟨v, a, ⟨by rw [← hFR]; exact r⟩, ⟨q⟩⟩⟩
     have HGW := Aside0.mk (HK.out.glob HG0.out HG5 HVB.out)
     have a1 : (0 : Int) ≤ (N : Int) := by omega
     have a2 : (N : Int) ≤ (cr : Int) := by omega
     have a3 : (0 : Int) ≤ (Hp : Int) := by omega
     have a4 : (Hp : Int) ≤ (R.length : Int) := by omega
     have a5 : (Hp : Int) ≤ (cr : Int) := by omega
     have hbw3 : w.heap.size ≤ wr.heap.size := HK.out.size
     have HOB : Aside0 (∀ q, (Value.slice Ao out.length co).ownBlock = some q → q < wr.heap.size ∧ w.heap.size ≤ q) := ⟨fun q hq => ⟨Kd.R_lt HO.out q hq, Kd.R_base HO.out q hq⟩⟩
     clear hcut hFR hRC hne s1 s2 s3 HT1 HT2 hoc
     go_wp2
     go_quiet (fail)
     go_wp2
     have ST1 : True := trivial
     go_region_law (first
      | (go_simp; go_at_call 24; clear ST1; refine (HFRM.out _ (HGW.out.below (show Below wr.heap.size wr _ by repeat (first | exact Below.refl _ _ | apply below_alloc | apply pw_below_drewN | apply below_drew1))) (by repeat (first | exact HTK.out | refine Kd.C_drewN ?_ _ | refine Kd.C_drew ?_))).mono ?_; rintro e_ wf ⟨vF, rfl, RF, B1⟩; obtain ⟨AF, cF, hvF, _, _⟩ := Kd.R_reads RF.out; subst hvF; have hb := below_then (show Below wr.heap.size wr _ by repeat (first | exact Below.refl _ _ | apply below_alloc | apply pw_below_drewN | apply below_drew1)) (by simp) B1.out; have HBF := Aside0.mk hb; have RF2 := Aside0.mk (Kd.R_lower (base' := wr.heap.size) RF.out (by simp)); have RF3 : Aside0 ((Kd.int .i64).R 3 wf w.heap.size (fun q => wr.heap.size ≤ q ∧ q < wf.heap.size) (.slice AF FR.length cF) FR) := ⟨Kd.R_lower (Kd.R_mono (Kd.R_bound RF2.out) (fun q hq => ⟨hq.2.1, hq.2.2.1⟩)) hbw3⟩; have HOF := Aside0.mk (Kd.R_below HO.out hb); have hwf : wr.heap.size ≤ wf.heap.size := hb.size; have HBF2 : Aside0 (Below w.heap.size wr wf) := ⟨hb.mono hbw3⟩; clear hb B1 RF RF2; have ST2 : True := trivial)
      | (clear ST2; refine Kd.R_append_step (Kd.slice 3 (Kd.int .i64)) (w0 := wr) (W := wf) w.heap.size (by rfl) (.tmp 70) (.tmp 88) 47 22 (.slice none 0 0) 24 (by rfl) Tryd.underlying47 rows_info (by rfl) (by decide) (by decide) (.slice Ao out.length co) out FR [.slice AF FR.length cF] (fun q => some q ≠ some gr) (fun q => wr.heap.size ≤ q ∧ q < wf.heap.size) (by rfl) (by rfl) ⟨_, rfl, RF3.out⟩ (by intro q hq; exact ⟨fun e_ => by injection e_ with e_; omega, fun e_ => by have := HOB.out q e_.symm; omega⟩) (by intro q hq e_; injection e_ with e_; omega) HOF.out ?_ (by omega) (by omega) ?_; (case refine_1 => exact HBF2.out); intro v1 w4 h1 h2 h3 h4; have HO4 := Aside0.mk h1; have HG4 := Aside0.mk h3; have H44 := Aside0.mk h4; clear h1 h2 h3 h4; have ST3 : True := trivial))
     all_goals
      obtain ⟨A1, c1, hv1, _, _⟩ := Kd.R_reads HO4.out
      rw [show (out ++ [FR]).length = out.length + 1 by rw [List.length_append]; rfl] at hv1
      subst hv1
      have hnog : some g ≠ (Value.slice Ao out.length co).ownBlock := fun e_ => by have := HOB.out g e_.symm; omega
      have hnogr : ∀ q, (Value.slice Ao out.length co).ownBlock = some q → q ≠ gr := fun q hq e_ => by
       have := HO.out.1 q hq
       exact this (by rw [e_]; rfl)
      have hw4 : wf.heap.size ≤ w4.heap.size := HG4.out.size
      have BK4 : Aside0 (w4.heap[g]? = some (.cells #[.int .i64 (N : Int), .int .i64 (Hp : Int), .int .i64 b, .int .i64 cf, .int .i64 p, .int .i64 cn, .int .i64 lst, .slice (some ⟨gr, 0, none⟩) R.length cr] 86 (0, 0))) := ⟨blk_grown (blk_below BK.out HBF.out) HG4.out hnog⟩
      have HRW4 : Aside0 ((Kd.int .i64).R 3 w4 b0 (fun _ => True) (.slice (some ⟨gr, 0, none⟩) R.length cr) R) := ⟨Kd.R_mono (Kd.R_grown (Kd.R_tight rfl (Kd.R_below HRW.out HBF.out)) HG4.out (fun q hq e_ => by
       have h1 : some q = some gr := hq
       injection h1 with h1
       exact hnogr q e_.symm h1)) (fun _ _ => trivial)⟩
      have HK4 : Aside0 (Keeps w w4 g v.ownBlock) := ⟨(HK.out.below HBF.out).grown HG4.out (fun q hq => .inr (HOB.out q hq).2)⟩
      have q7' := blk_cell BK4.out 7
      have q1' := blk_cell BK4.out 1
      have q0' := blk_cell BK4.out 0
      go_wp2
      by_cases hcr2 : cr = Hp
      ·
       have HDP4 : Aside0 ((Kd.int .i64).C w4 (some ⟨gr, 0, none⟩) (R.length - Hp) (R.drop Hp)) := ⟨by
        have := Kd.C_drop (R_C HRW4.out) (m := Hp) (c := cr) (by omega) hcr
        rw [if_pos hcr2, show (R.drop Hp).length = R.length - Hp by rw [List.length_drop]] at this
        exact this⟩
       have HCL : Aside0 (∀ W : World, (Kd.int .i64).C W (some ⟨gr, 0, none⟩) (R.length - Hp) (R.drop Hp) → Calls Tryd.prog 66 #[.slice (some ⟨gr, 0, none⟩) (R.length - Hp) 0] W fun e w' => ∃ v, e = .returned v ∧ Aside0 (Kd.R (Kd.int .i64) 3 w' W.heap.size (fun _ => True) v (R.drop Hp)) ∧ Aside0 (Below W.heap.size W w')) := ⟨fun W hc => (clone_go _ _ _ _ W HDL.out hc (by omega)).mono fun e w' ⟨v, a, r, q⟩ => ⟨v, a, ⟨r⟩, ⟨q⟩⟩⟩
       go_region_law (first
        | (go_simp; go_at_call 66; refine (HCL.out _ (by repeat (first | exact HDP4.out | refine Kd.C_drewN ?_ _ | refine Kd.C_drew ?_))).mono ?_; rintro e_ wc ⟨vC, rfl, RC, B1⟩; obtain ⟨AC, cC, hvC, _, _⟩ := Kd.R_reads RC.out; rw [HDL.out] at hvC; subst hvC; have hb := below_then (show Below w4.heap.size w4 _ by repeat (first | exact Below.refl _ _ | apply below_alloc | apply pw_below_drewN | apply below_drew1)) (by simp) B1.out; have RC2 := Aside0.mk (Kd.R_lower (base' := w4.heap.size) RC.out (by simp)); have BKc := Aside0.mk (blk_below BK4.out hb); have HBc := Aside0.mk hb; clear hb B1 RC; have r7 := blk_cell BKc.out 7; have g7 := blk_frozen BKc.out 7))
       all_goals
        go_wp2
        go_roundw
        case rel =>
         have hvc : ∀ q, (Value.slice AC (R.length - Hp) cC).ownBlock = some q → w4.heap.size ≤ q := fun q hq => Kd.R_base RC2.out q hq
         refine ⟨k, R.drop Hp, out ++ [FR], .slice AC (R.length - Hp) cC, by rw [HDL.out]; omega, by rw [HDL.out]; omega, HT1', HT2', ⟨?_, hg0, ?_⟩, ⟨?_⟩, ⟨?_⟩, ⟨fun q hq => .inr (by have := hvc q hq; omega)⟩⟩
         · exact (blk_set BKc.out 7 (.slice AC (R.length - Hp) cC)).trans rfl
         · exact put_R RC2.out (by omega) (by omega)
         · exact put_R2 HO4.out HBc.out hgw0 (fun q hq e_ => by have := hvc q e_.symm; omega)
         · exact (HK4.out.below HBc.out).set 7 _
        case measure => simp [lenOf]; omega
      ·
       have HDP4 : Aside0 ((Kd.int .i64).C w4 (some ⟨gr, Hp, none⟩) (R.length - Hp) (R.drop Hp)) := ⟨by
        have := Kd.C_drop (R_C HRW4.out) (m := Hp) (c := cr) (by omega) hcr
        rw [if_neg hcr2, show (R.drop Hp).length = R.length - Hp by rw [List.length_drop], show Hp * (Kd.int IntKind.i64).sz = Hp by show Hp * 1 = Hp; omega] at this
        have hHp0 : ¬ Hp = 0 := by omega
        simpa [Addr.add, hHp0] using this⟩
       have HCL : Aside0 (∀ W : World, (Kd.int .i64).C W (some ⟨gr, Hp, none⟩) (R.length - Hp) (R.drop Hp) → Calls Tryd.prog 66 #[.slice (some ⟨gr, Hp, none⟩) (R.length - Hp) (cr - Hp)] W fun e w' => ∃ v, e = .returned v ∧ Aside0 (Kd.R (Kd.int .i64) 3 w' W.heap.size (fun _ => True) v (R.drop Hp)) ∧ Aside0 (Below W.heap.size W w')) := ⟨fun W hc => (clone_go _ _ _ _ W HDL.out hc (by omega)).mono fun e w' ⟨v, a, r, q⟩ => ⟨v, a, ⟨r⟩, ⟨q⟩⟩⟩
       go_region_law (first
        | (go_simp; go_at_call 66; refine (HCL.out _ (by repeat (first | exact HDP4.out | refine Kd.C_drewN ?_ _ | refine Kd.C_drew ?_))).mono ?_; rintro e_ wc ⟨vC, rfl, RC, B1⟩; obtain ⟨AC, cC, hvC, _, _⟩ := Kd.R_reads RC.out; rw [HDL.out] at hvC; subst hvC; have hb := below_then (show Below w4.heap.size w4 _ by repeat (first | exact Below.refl _ _ | apply below_alloc | apply pw_below_drewN | apply below_drew1)) (by simp) B1.out; have RC2 := Aside0.mk (Kd.R_lower (base' := w4.heap.size) RC.out (by simp)); have BKc := Aside0.mk (blk_below BK4.out hb); have HBc := Aside0.mk hb; clear hb B1 RC; have r7 := blk_cell BKc.out 7; have g7 := blk_frozen BKc.out 7))
       all_goals
        go_wp2
        go_roundw
        case rel =>
         have hvc : ∀ q, (Value.slice AC (R.length - Hp) cC).ownBlock = some q → w4.heap.size ≤ q := fun q hq => Kd.R_base RC2.out q hq
         refine ⟨k, R.drop Hp, out ++ [FR], .slice AC (R.length - Hp) cC, by rw [HDL.out]; omega, by rw [HDL.out]; omega, HT1', HT2', ⟨?_, hg0, ?_⟩, ⟨?_⟩, ⟨?_⟩, ⟨fun q hq => .inr (by have := hvc q hq; omega)⟩⟩
         · exact (blk_set BKc.out 7 (.slice AC (R.length - Hp) cC)).trans rfl
         · exact put_R RC2.out (by omega) (by omega)
         · exact put_R2 HO4.out HBc.out hgw0 (fun q hq e_ => by have := hvc q e_.symm; omega)
         · exact (HK4.out.below HBc.out).set 7 _
        case measure => simp [lenOf]; omega
    ·
     obtain ⟨Ar, cr, hru, _, _⟩ := Kd.R_reads s3
     subst hru
     subst ho
     have d1 : decide ((N : Int) ≤ (R.length : Int)) = false := decide_eq_false (by omega)
     have hcn2 := cutN_no (N : Int) (Hp : Int) b cf p k R (by omega)
     have hE1 : out = T1 := by rw [← HT1.out, hcn2, List.append_nil]
     have hE2 : R = T2 := by rw [← HT2.out, hcn2]
     have HE1 := Aside0.mk hE1
     have HE2 := Aside0.mk hE2
     clear hcn2 hE1 hE2 hne s1 s2 s3 HT1 HT2 hoc
     go_wp2
     go_quiet (fail)
     go_wp2
     go_ret2
     refine ⟨_, _, rfl, ?_, ?_, HK.out.drewN _, HV.out⟩
     ·
      rw [← HE2.out]
      exact SR.out
     ·
      rw [← HE1.out]
      exact HO.out
theorem count_go (g : Nat) (s h b c p cnt last : Int) (v : Value) (w : World) (hb : w.heap[g]? = some (.cells (strC s h b c p cnt last v) 86 (0, 0))) :
  Calls Tryd.prog 33 #[.pointer (some ⟨g, 0, none⟩)] w fun e w' => e = .returned (.int .i64 cnt) ∧ Below w.heap.size w w' := by
 have hu49 := Tryd.underlying49
 have hu86 := Tryd.underlying86
 have hu84 := Tryd.underlying84
 have hu39 := Tryd.underlying39
 have hb2 : w.heap[g]? = some (.cells #[.int .i64 s, .int .i64 h, .int .i64 b, .int .i64 c, .int .i64 p, .int .i64 cnt, .int .i64 last, v] 86 (0, 0)) := hb
 have q5 := blk_cell hb2 5
 clear hb hb2
 go_enter Tryd.func33, Tryd.ntmps33
 go_wp2
 go_ret
 exact ⟨rfl, by repeat (first | exact Below.refl _ _ | apply pw_below_drewN)⟩
set_option maxHeartbeats 16000000 in
set_option maxRecDepth 100000 in
theorem new_yes (s h b c p : Int) (w : World) (hG : GlobA w) (hr : rightB s h b c p = true) :
  Calls Tryd.prog 30 #[.agg #[.int .i64 s, .int .i64 h, .int .i64 b, .int .i64 c, .int .i64 p]] w fun e w' => ∃ g, e = .returned (.pointer (some ⟨g, 0, none⟩)) ∧ w.heap.size ≤ g ∧ w'.heap[g]? = some (.cells (strC s h b c p 0 0 (.slice none 0 0)) 86 (0, 0)) ∧ Below w.heap.size w w' := by
 have HRG : Aside0 (∀ W : World, GlobA W → Calls Tryd.prog 27 #[.agg #[.int .i64 s, .int .i64 h, .int .i64 b, .int .i64 c, .int .i64 p]] W fun e w' => e = .returned (.bool true) ∧ Below W.heap.size W w') := ⟨fun W hg => right_go s h b c p true W hg hr⟩
 have hu39 := Tryd.underlying39
 have hu84 := Tryd.underlying84
 have hu86 := Tryd.underlying86
 have HG0 := Aside0.mk hG
 clear hG hr
 have ST0 : True := trivial
 go_enter Tryd.func30, Tryd.ntmps30
 go_wp2_with (first
  | ((with_reducible refine gate_dst (N := 1) rfl ?_); refine box_event ?hg (N := 1) ?hd (cs := #[.int .i64 s, .int .i64 h, .int .i64 b, .int .i64 c, .int .i64 p]) (t := 39) ?hr ?_; (case hd => rfl); (case hg => first | rfl | exact wanted_on rfl rfl rfl (by first | assumption | rfl | (simp [*]; done))); (case hr => first | (go_simp; done) | (go_simp; rfl)); intro gb hgb wb hbox hb; subst hgb; have BK := Aside0.mk hbox; have HB := Aside0.mk hb; have q0c := blk_cell BK.out 0; have q1c := blk_cell BK.out 1; have q2c := blk_cell BK.out 2; have q3c := blk_cell BK.out 3; have q4c := blk_cell BK.out 4; clear ST0 hbox hb; have ST1 : True := trivial)
  | (go_at_call 27; clear ST1; (with_reducible refine (HRG.out _ (HG0.out.below HB.out)).mono ?_); rintro e_ w1 ⟨rfl, B1⟩; have BK1 := Aside0.mk (blk_below BK.out B1); have HB1 := Aside0.mk (below_step HB.out B1); clear B1 BK HB q0c q1c q2c q3c q4c; have q0c := blk_cell BK1.out 0; have q1c := blk_cell BK1.out 1; have q2c := blk_cell BK1.out 2; have q3c := blk_cell BK1.out 3; have q4c := blk_cell BK1.out 4; have ST2 : True := trivial)
  | ((with_reducible refine gate_dst (N := 9) rfl ?_); refine box_event ?hg (N := 9) ?hd (cs := #[.int .i64 s, .int .i64 h, .int .i64 b, .int .i64 c, .int .i64 p, .int .i64 0, .int .i64 0, .slice none 0 0]) (t := 86) ?hr ?_; (case hd => rfl); (case hg => first | rfl | exact wanted_on rfl rfl rfl (by first | assumption | rfl | (simp [*]; done))); (case hr => first | (go_simp; done) | (go_simp; rfl)); intro gs hgs w2 hbox hb; have BK2 := Aside0.mk hbox; have HB2 := Aside0.mk (below_step HB1.out hb); have hgs2 : w.heap.size ≤ gs := (by rw [hgs]; exact HB1.out.size); clear ST2 hbox hb hgs; have ST3 : True := trivial))
 go_ret
 exact ⟨_, rfl, hgs2, BK2.out, HB2.out⟩
theorem lit_c (W : World) (xs : List Int) (hl : xs.length ≤ 1000000 := by decide) : (Kd.int .i64).C (W.alloc (.cells (nums .i64 xs).toArray 3)) (some ⟨W.heap.size, 0, none⟩) xs.length xs := by
 have h := own_lit W W.heap.size 3 .i64 xs (Nat.le_refl _) (by omega)
 have hR := Kd.R_of_own (enc := Value.int .i64) (h1 := fun _ => rfl) (ok := fun _ => True) (xs := xs) h (fun _ _ => trivial)
 exact (Kd.R_reads' hR).2.2
theorem frameF_len {s h b c p : Int} {ys : List Int} (hok : frameOk s h b c p ys = true) : (frameF s h b c p ys).length = c.toNat := by
 unfold frameF
 rw [if_pos hok]
 simp only [frameOk, Bool.and_eq_true] at hok
 have hr := hok.1.1
 simp only [rightB, Bool.and_eq_true, decide_eq_true_eq] at hr
 obtain ⟨⟨⟨⟨⟨⟨⟨r0, r1⟩, r2⟩, r3⟩, r4⟩, r5⟩, r6⟩, r7⟩ := hr
 unfold frameL dctF
 rw [frameG_length, if_pos (by simp only [dctMay, Bool.and_eq_true, decide_eq_true_eq]; exact ⟨⟨r3, r4⟩, by omega⟩)]
 simp [dctL]
theorem StrAt.below {w w1 : World} {g b0 : Nat} {s h b c p cnt last : Int} {v : Value} {rest : List Int} (H : StrAt w g b0 s h b c p cnt last v rest) (hb : Below w.heap.size w w1) : StrAt w1 g b0 s h b c p cnt last v rest :=
 ⟨blk_below H.1 hb, H.2.1, Kd.R_below H.2.2 hb⟩
theorem StrAt.new {w : World} {g b0 : Nat} {s h b c p : Int} (H : w.heap[g]? = some (.cells (strC s h b c p 0 0 (.slice none 0 0)) 86 (0, 0))) (hg : b0 ≤ g) : StrAt w g b0 s h b c p 0 0 (.slice none 0 0) [] := ⟨H, hg, Kd.R_nil _ _ _ _ _⟩
theorem keeps_step {w W W1 : World} {g : Nat} {s h b c p cnt last : Int} {v : Value} {rest : List Int} (hB : Below w.heap.size w W) (hS : StrAt W g w.heap.size s h b c p cnt last v rest) (hK : Keeps W W1 g v.ownBlock) : Below w.heap.size w W1 :=
 hB.trans (hK.toBelow hB.size hS.2.1 (fun k hk => (hS.ne k hk).2.1))
theorem far_new {W : World} {g : Nat} {v : Value} (hg : g < W.heap.size) (hv : ∀ k, v.ownBlock = some k → k < W.heap.size) (n : Nat) : ∀ ad, some (⟨W.heap.size, 0, none⟩ : Addr) = some ad → 0 < n → ad.block ≠ g ∧ some ad.block ≠ v.ownBlock := by
 intro ad he _
 injection he with he
 subst he
 exact ⟨by show W.heap.size ≠ g; omega, fun e => by have := hv _ e.symm; simp at this⟩
set_option maxHeartbeats 16000000 in
set_option maxRecDepth 100000 in
theorem awake_go (w : World) (hG : GlobA w) : Calls Tryd.prog 22 #[] w fun e w' => e = .returned (.bool true) ∧ Below w.heap.size w w' := by
 have hw0 : 1 ≤ w.heap.size := hG.1
 have HG0 := Aside0.mk hG
 have HNW : Aside0 (∀ W : World, GlobA W → Calls Tryd.prog 30 #[.agg #[.int .i64 16, .int .i64 8, .int .i64 4, .int .i64 2, .int .i64 0]] W fun e w' => ∃ g, e = .returned (.pointer (some ⟨g, 0, none⟩)) ∧ W.heap.size ≤ g ∧ w'.heap[g]? = some (.cells (strC 16 8 4 2 0 0 0 (.slice none 0 0)) 86 (0, 0)) ∧ Below W.heap.size W w') := ⟨fun W hg => new_yes 16 8 4 2 0 W hg (by decide)⟩
 have hmk := print_make 22 3 .i64 8 Tryd.underlying22 turn_info (by decide) 31 (by omega)
 simp only [Int.cast_ofNat_Int] at hmk
 have HX1 : Aside0 ((List.replicate 31 (0 : Int)).any badPU = false) := ⟨by decide +kernel⟩
 have HR1 : Aside0 (([] : List Int) ++ flatL 0 0 (List.replicate 31 (0 : Int)) = List.replicate 31 0) := ⟨by decide +kernel⟩
 obtain ⟨T1, hT1⟩ : ∃ T, (cutN 16 8 4 2 0 ((List.replicate 31 (0 : Int)).length + 1) (List.replicate 31 (0 : Int))).1 = T := ⟨_, rfl⟩
 have hT1l : T1.length = 2 := by rw [← hT1]; decide +kernel
 have HT2 : Aside0 ((cutN 16 8 4 2 0 ((List.replicate 31 (0 : Int)).length + 1) (List.replicate 31 (0 : Int))).2 = List.replicate 15 0) := ⟨by decide +kernel⟩
 have HL1 : Aside0 (lastL 0 (List.replicate 31 (0 : Int)) = 0) := ⟨by decide +kernel⟩
 have HX2 : Aside0 (([5] : List Int).any badPU = false) := ⟨by decide +kernel⟩
 have HR2 : Aside0 (List.replicate 15 (0 : Int) ++ flatL 0 0 [5] = List.replicate 15 0 ++ [5]) := ⟨by decide +kernel⟩
 obtain ⟨F, hF⟩ : ∃ F, frameF 16 8 4 2 0 (List.replicate 15 0 ++ [5]) = F := ⟨_, rfl⟩
 have hFl : F.length = 2 := by rw [← hF, frameF_len (by decide +kernel)]; rfl
 have HC2 : Aside0 ((cutN 16 8 4 2 0 ((List.replicate 15 (0 : Int) ++ [5]).length + 1) (List.replicate 15 (0 : Int) ++ [5])).1 = [F]) := ⟨by
  rw [cutN_yes _ _ _ _ _ _ _ (by decide), cutN_no _ _ _ _ _ _ _ (by decide), ← hF]; rfl⟩
 obtain ⟨T3, hT3⟩ : ∃ T, (cutN 16 8 4 2 0 ((List.replicate 15 (0 : Int) ++ [5]).length + 1) (List.replicate 15 (0 : Int) ++ [5])).2 = T := ⟨_, rfl⟩
 have HT1 := Aside0.mk hT1
 have HT3 := Aside0.mk hT3
 have hu49 := Tryd.underlying49
 have hu86 := Tryd.underlying86
 have hu39 := Tryd.underlying39
 clear hG hT1 hF hT3
 have HP1 : Aside0 (∀ (g : Nat) (w1 : World), Below w.heap.size w w1 → StrAt w1 g w.heap.size 16 8 4 2 0 0 0 (.slice none 0 0) [] → Calls Tryd.prog 31 #[.pointer (some ⟨g, 0, none⟩), .slice (some ⟨w1.heap.size, 0, none⟩) 31 31] (w1.alloc (.cells (madeCells #[.int .i64 0] 31) 3)) fun e w' => ∃ A1 c1 v2, e = .returned (.tuple #[.slice A1 2 c1, .int .i64 0]) ∧ Aside0 (StrAt w' g w.heap.size 16 8 4 2 0 31 0 v2 (List.replicate 15 0)) ∧ Aside0 (Below w.heap.size w w')) := ⟨fun g w1 hb hs => by
  have ha := below_alloc (Below.refl w1.heap.size w1) (.cells (madeCells #[.int .i64 0] 31) 3)
  have hst := hs.below ha
  have hbw := hb.trans (ha.mono hb.size)
  have hgw : g < w1.heap.size := blk_lt hs.1
  have hC1 : (Kd.int .i64).C (w1.alloc (.cells (madeCells #[.int .i64 0] 31) 3)) (some ⟨w1.heap.size, 0, none⟩) 31 (List.replicate 31 0) := own_CT (own_made w1 w1.heap.size 3 .i64 31 (Nat.le_refl _) (by omega))
  have hA := far_new (W := w1) (g := g) (v := .slice none 0 0) hgw (fun k hk => by simp [Value.ownBlock] at hk) 31
  have H := push_go (some ⟨w1.heap.size, 0, none⟩) 31 31 g w.heap.size 16 8 16 8 4 2 0 0 0 31 0 [] (List.replicate 31 0) (List.replicate 31 0) (List.replicate 15 0) T1 (.slice none 0 0) _ (HG0.out.below hbw) hw0 hbw.size hst (by simp) hC1 hA HX1.out (by omega) (by omega) rfl (by omega) rfl (by omega) (by omega) (by omega) (by omega) (by decide) (by omega) (by omega) HR1.out HT1.out HT2.out rfl HL1.out
  refine H.mono ?_
  rintro e_ w2 ⟨vo, v2, rfl, hS2, hO2, hK2, hv2⟩
  obtain ⟨A1, c1, hvo, _, _⟩ := Kd.R_reads hO2
  rw [hT1l] at hvo
  subst hvo
  exact ⟨A1, c1, v2, rfl, ⟨hS2⟩, ⟨keeps_step hbw hst hK2⟩⟩⟩
 have HP2 : Aside0 (∀ (g : Nat) (w2 : World) (v2 : Value), Below w.heap.size w w2 → StrAt w2 g w.heap.size 16 8 4 2 0 31 0 v2 (List.replicate 15 0) → Calls Tryd.prog 31 #[.pointer (some ⟨g, 0, none⟩), .slice (some ⟨w2.heap.size, 0, none⟩) 1 1] (w2.alloc (.cells #[.int .i64 5] 3)) fun e w' => ∃ ad3 c3 B3 d3 v3, e = .returned (.tuple #[.slice (some ad3) 1 c3, .int .i64 0]) ∧ w'.cell? ad3 = some (.slice B3 2 d3) ∧ Aside0 (w'.heap[g]? = some (.cells (strC 16 8 4 2 0 32 5 v3) 86 (0, 0))) ∧ Aside0 (Below w.heap.size w w')) := ⟨fun g w2 v2 hb hs => by
  have ha := below_alloc (Below.refl w2.heap.size w2) (.cells #[.int .i64 5] 3)
  have hst := hs.below ha
  have hbw := hb.trans (ha.mono hb.size)
  have hgw : g < w2.heap.size := blk_lt hs.1
  have hA := far_new (W := w2) (g := g) (v := v2) hgw (fun k hk => (hs.ne k hk).2.2) 1
  have H := push_go (some ⟨w2.heap.size, 0, none⟩) 1 1 g w.heap.size 16 8 16 8 4 2 0 31 0 32 5 (List.replicate 15 0) [5] (List.replicate 15 0 ++ [5]) T3 [F] v2 _ (HG0.out.below hbw) hw0 hbw.size hst rfl (lit_c w2 [5]) hA HX2.out (by omega) (by omega) rfl (by omega) rfl (by omega) (by omega) (by omega) (by omega) (by decide) (by omega) (by omega) HR2.out HC2.out HT3.out rfl rfl
  refine H.mono ?_
  rintro e_ w3 ⟨vo, v3, rfl, hS3, hO3, hK3, hv3⟩
  obtain ⟨A3, c3, hvo, hc3, _⟩ := Kd.R_reads hO3
  rw [show [F].length = 1 from rfl] at hvo
  subst hvo
  obtain ⟨ad3, B3, d3, hA3, k0, _, _⟩ := R2_row hO3 0 (by decide)
  subst hA3
  rw [show ad3.add 0 = ad3 by simp [Addr.add], show ([F] : List (List Int)).getD 0 [] = F from rfl, hFl] at k0
  exact ⟨ad3, c3, B3, d3, v3, rfl, k0, ⟨hS3.1⟩, ⟨keeps_step hbw hst hK3⟩⟩⟩
 have ST0 : True := trivial
 go_enter Tryd.func22, Tryd.ntmps22
 go_wp2_with (first
  | (go_at_call 30; clear ST0; (with_reducible refine (HNW.out _ HG0.out).mono ?_); rintro e_ w1 ⟨g, rfl, hg, hbk, B1⟩; have hgw : g < w1.heap.size := blk_lt hbk; have HB1 := Aside0.mk B1; have HS1 : Aside0 (StrAt w1 g w.heap.size 16 8 4 2 0 0 0 (.slice none 0 0) []) := ⟨StrAt.new hbk hg⟩; clear hbk B1; have ST1 : True := trivial)
  | (go_at_call 31; clear ST1; (with_reducible refine (HP1.out g w1 HB1.out HS1.out).mono ?_); rintro e_ w2 ⟨A1, c1, v2, rfl, HS2, HB2⟩; clear HS1 HB1; have ST2 : True := trivial)
  | (go_at_call 31; clear ST2; (with_reducible refine (HP2.out g w2 v2 HB2.out HS2.out).mono ?_); rintro e_ w3 ⟨ad3, c3, B3, d3, v3, rfl, k0, HS3, HB3⟩; clear HS2 HB2; have ST3 : True := trivial)
  | (go_at_call 33; clear ST3; (with_reducible refine (count_go g 16 8 4 2 0 32 5 v3 _ HS3.out).mono ?_); rintro e_ w4 ⟨rfl, B4⟩; have HB4 := Aside0.mk (below_step HB3.out B4); clear B4))
 go_ret
 exact ⟨rfl, HB4.out⟩
def earshotlaw13_awake.f : Option (Bool) := some true
theorem earshotlaw13_awake.calls (r : Bool) (w : World) (hG : GlobA w) (h : earshotlaw13_awake.f = some r) : Calls Tryd.prog 22 #[] w fun e w' => e = .returned (.bool r) ∧ Below w.heap.size w w' := by
 obtain rfl := Option.some.inj h
 exact awake_go w hG
end Go.Proofs.YtmhacdnnnebpdaaDoor.PFrontStream
