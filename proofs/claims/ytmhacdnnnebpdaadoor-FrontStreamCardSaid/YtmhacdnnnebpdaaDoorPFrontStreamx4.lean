-- Written by a program of this work (wip/tools) for this claim; Lean checks it.
import Derived.Test.YtmhacdnnnebpdaaDoorPFrontStreamx3
namespace Go.Proofs.YtmhacdnnnebpdaaDoor.PFrontStream
open Go.RowKit Go.Proofs.YtmhacdnnnebpdaaDoorW.PrintWords Go.Proofs.YtmhacdnnnebpdaaDoorW.PrintLast Go.Proofs.YtmhacdnnnebpdaaDoorW.PrintMore
attribute [local go_sem] max2_int min2_int max_two min_two max_three min_three max_four min_four   -- for this text's walks alone
set_option linter.unusedVariables false
set_option linter.unusedSimpArgs false
theorem addAll_two' (a b : List Int) (ha : In64 a) : addAll [a, b] = addL a b := by
 have hz : addL (List.replicate a.length 0) a = a := by
  refine row_ext (by rw [addL_length (by simp)]; simp) (fun i hi => ?_)
  rw [addL_length (by simp), List.length_replicate] at hi
  rw [addL_getD (by simp) i (by simpa using hi)]
  have : (List.replicate a.length (0 : Int)).getD i 0 = 0 := by rw [List.getD_eq_getElem?_getD, List.getElem?_replicate, if_pos hi]; rfl
  rw [this, Int.zero_add, ha.getD]
 show addGo a.length [a, b] (List.replicate a.length 0) = _
 rw [addGo, hz, if_pos rfl, addGo, addGo]
 split
 · rfl
 ·
  rename_i h
  unfold addL at h ⊢
  split at h
  ·
   rename_i e
   rw [List.length_zipWith] at h; omega
  · rw [if_neg ‹_›]
def halvesL (xs : List Int) (H : Nat) : Nat → Nat → Nat → List (List Int)
 | 0, fr, _ => [(List.replicate H 0).set 0 (xs.getD fr 0)]
 | e + 1, fr, st =>
   (List.range (2 ^ e)).map (fun k => addL ((halvesL xs H e fr (2 * st)).getD k []) (turnL ((halvesL xs H e (fr + st) (2 * st)).getD k []) ((k : Int) * (st : Int)))) ++
   (List.range (2 ^ e)).map (fun k => lessL ((halvesL xs H e fr (2 * st)).getD k []) (turnL ((halvesL xs H e (fr + st) (2 * st)).getD k []) ((k : Int) * (st : Int))))
theorem halvesL_length (xs : List Int) (H : Nat) : ∀ e fr st, (halvesL xs H e fr st).length = 2 ^ e
 | 0, _, _ => rfl
 | e + 1, fr, st => by rw [halvesL, List.length_append, List.length_map, List.length_map, List.length_range, Nat.pow_succ]; omega
theorem getD_map_range' {α : Type} (n : Nat) (f : Nat → α) (z : α) (i : Nat) (hi : i < n) : ((List.range n).map f).getD i z = f i := by
 rw [List.getD_eq_getElem?_getD, List.getElem?_map, List.getElem?_range hi]; rfl
theorem halvesL_low (xs : List Int) (H e fr st k : Nat) (hk : k < 2 ^ e) : (halvesL xs H (e + 1) fr st).getD k [] = addL ((halvesL xs H e fr (2 * st)).getD k []) (turnL ((halvesL xs H e (fr + st) (2 * st)).getD k []) ((k : Int) * (st : Int))) := by
 rw [halvesL, List.getD_eq_getElem?_getD, List.getElem?_append_left (by rw [List.length_map, List.length_range]; exact hk), ← List.getD_eq_getElem?_getD]
 exact getD_map_range' _ _ _ k hk
theorem halvesL_high (xs : List Int) (H e fr st k : Nat) (hk : k < 2 ^ e) : (halvesL xs H (e + 1) fr st).getD (k + 2 ^ e) [] = lessL ((halvesL xs H e fr (2 * st)).getD k []) (turnL ((halvesL xs H e (fr + st) (2 * st)).getD k []) ((k : Int) * (st : Int))) := by
 rw [halvesL, List.getD_eq_getElem?_getD, List.getElem?_append_right (by rw [List.length_map, List.length_range]; omega), List.length_map, List.length_range, Nat.add_sub_cancel, ← List.getD_eq_getElem?_getD]
 exact getD_map_range' _ _ _ k hk
theorem halvesL_row (xs : List Int) (hin : In64 xs) (H : Nat) (hH : 0 < H) : ∀ e fr st k, k < 2 ^ e → ((halvesL xs H e fr st).getD k []).length = H ∧ In64 ((halvesL xs H e fr st).getD k [])
 | 0, fr, st, k, hk => by
   obtain rfl : k = 0 := by simpa using hk
   show ((List.replicate H (0 : Int)).set 0 (xs.getD fr 0)).length = H ∧ In64 ((List.replicate H (0 : Int)).set 0 (xs.getD fr 0))
   refine ⟨by simp, fun x hx => ?_⟩
   rcases List.mem_or_eq_of_mem_set hx with h | h
   · rw [List.eq_of_mem_replicate h]; exact ⟨by decide, by decide⟩
   · rw [h, ← hin.getD]; exact ⟨W_lo _, W_hi _⟩
 | e + 1, fr, st, k, hk => by
   have ih1 := halvesL_row xs hin H hH e fr (2 * st)
   have ih2 := halvesL_row xs hin H hH e (fr + st) (2 * st)
   rcases Nat.lt_or_ge k (2 ^ e) with h | h
   ·
    rw [halvesL_low _ _ _ _ _ _ h]
    exact ⟨by rw [addL_length (by rw [turnL_length, (ih1 k h).1, (ih2 k h).1]), (ih1 k h).1], addL_in _ _⟩
   ·
    have hk' : k - 2 ^ e < 2 ^ e := by rw [Nat.pow_succ] at hk; omega
    rw [show k = (k - 2 ^ e) + 2 ^ e by omega, halvesL_high _ _ _ _ _ _ hk']
    exact ⟨by rw [lessL_length (by rw [turnL_length, (ih1 _ hk').1, (ih2 _ hk').1]), (ih1 _ hk').1], lessL_in _ _⟩
def R2 (W : World) (base : Nat) (ok : Nat → Prop) (v : Value) (rows : List (List Int)) : Prop := (Kd.slice 3 (Kd.int .i64)).R 22 W base ok v rows
theorem rows_of {W : World} {base g m : Nat} {cs : Array Value} {rows : List (List Int)} (hb : base ≤ g) (hg : W.heap[g]? = some (.cells cs 22 (0, 0))) (hs : cs.size = m) (hm : m ≤ 1000000) (hr : rows.length = m)
  (h : ∀ j, j < m → ∃ v, cs[j]? = some v ∧ (Kd.int .i64).R 3 W base (fun k => k ≠ g) v (rows.getD j [])) : R2 W base (fun _ => True) (.slice (some ⟨g, 0, none⟩) m m) rows := by
 refine ⟨fun _ _ => trivial, cs.toList, ⟨?_, .inr ⟨g, m, cs, by rw [hr], hb, hg, by omega, by unfold maxLen; omega, ?_, ?_⟩⟩, ?_, ?_⟩
 ·
  show cs.toList.length = rows.length * 1
  rw [Array.length_toList, hs, hr]; omega
 ·
  show cs.size = m * 1
  omega
 ·
  show cs.toList.take (rows.length * 1) = cs.toList
  exact List.take_of_length_le (by rw [Array.length_toList, hs, hr]; omega)
 ·
  show cs.toList.length = rows.length * 1
  rw [Array.length_toList, hs, hr]; omega
 ·
  intro j p hj
  have hjl : j < m := by rw [← hr]; exact (List.getElem?_eq_some_iff.1 hj).1
  obtain ⟨v, hv, hR⟩ := h j hjl
  have hv2 : cs.toList[j]? = some v := by rw [Array.getElem?_toList]; exact hv
  have hp : rows.getD j [] = p := by rw [List.getD_eq_getElem?_getD, hj]; rfl
  show ∃ v', (cs.toList.drop (j * 1)).take 1 = [v'] ∧ _
  have hjs : j < cs.toList.length := by rw [Array.length_toList, hs]; exact hjl
  refine ⟨v, ?_, ?_⟩
  ·
   rw [Nat.mul_one, List.drop_eq_getElem_cons hjs, List.take_succ_cons, List.take_zero]
   rw [List.getElem?_eq_getElem hjs] at hv2
   rw [Option.some.inj hv2]
  ·
   rw [hp] at hR
   exact Kd.R_mono hR (fun k hk => ⟨trivial, fun e => hk (by simpa [Value.ownBlock] using e)⟩)
def OutOK (W : World) (base g M : Nat) (P : Nat → Prop) (rows : List (List Int)) : Prop :=
 ∃ cs : Array Value, W.heap[g]? = some (.cells cs 22 (0, 0)) ∧ cs.size = M ∧ ∀ j, j < M → P j → ∃ v, cs[j]? = some v ∧ (Kd.int .i64).R 3 W base (fun q => q ≠ g) v (rows.getD j [])
theorem OutOK.below {W W1 : World} {base g M : Nat} {P : Nat → Prop} {rows : List (List Int)} (h : OutOK W base g M P rows) (hb : Below W.heap.size W W1) : OutOK W1 base g M P rows := by
 obtain ⟨cs, h1, h2, h3⟩ := h
 refine ⟨cs, blk_below h1 hb, h2, fun j hj hp => ?_⟩
 obtain ⟨v, hv, hR⟩ := h3 j hj hp
 exact ⟨v, hv, Kd.R_below hR hb⟩
theorem OutOK.free {W : World} {base g M : Nat} {P : Nat → Prop} {rows : List (List Int)} (h : OutOK W base g M P rows) (j : Nat) (hj : j < M) : (∃ v, W.cell? ⟨g, j, none⟩ = some v) ∧ W.frozen? ⟨g, j, none⟩ = false := by
 obtain ⟨cs, h1, h2, h3⟩ := h
 refine ⟨⟨cs[j]'(by omega), ?_⟩, blk_frozen h1 j⟩
 rw [blk_cell h1 j]
 exact Array.getElem?_eq_getElem (by omega)
theorem OutOK.put {W : World} {base g M : Nat} {P : Nat → Prop} {rows : List (List Int)} (h : OutOK W base g M P rows) (i : Nat) (hi : i < M) {u : Value} (hu : (Kd.int .i64).R 3 W base (fun q => q ≠ g) u (rows.getD i [])) :
  OutOK (W.setCell ⟨g, i, none⟩ u) base g M (fun j => P j ∨ j = i) rows := by
 obtain ⟨cs, h1, h2, h3⟩ := h
 refine ⟨_, blk_set h1 i u, by rw [Array.size_setIfInBounds]; exact h2, fun j hj hp => ?_⟩
 by_cases e : j = i
 ·
  subst e
  exact ⟨u, by rw [Array.getElem?_setIfInBounds_self_of_lt (by omega)], Kd.R_far hu (fun k hk => hk) u⟩
 ·
  obtain ⟨v, hv, hR⟩ := h3 j hj (hp.resolve_right e)
  exact ⟨v, by rw [Array.getElem?_setIfInBounds_ne (fun h => e h.symm)]; exact hv, Kd.R_far hR (fun k hk => hk) u⟩
theorem OutOK.all {W : World} {base g M : Nat} {P : Nat → Prop} {rows : List (List Int)} (h : OutOK W base g M P rows) (hb : base ≤ g) (hm : M ≤ 1000000) (hr : rows.length = M) (hP : ∀ j, j < M → P j) : R2 W base (fun _ => True) (.slice (some ⟨g, 0, none⟩) M M) rows := by
 obtain ⟨cs, h1, h2, h3⟩ := h
 exact rows_of hb h1 h2 hm hr (fun j hj => h3 j hj (hP j hj))
theorem OutOK.imp {W : World} {base g M : Nat} {P Q : Nat → Prop} {rows : List (List Int)} (h : OutOK W base g M P rows) (hPQ : ∀ j, j < M → Q j → P j) : OutOK W base g M Q rows := by
 obtain ⟨cs, h1, h2, h3⟩ := h
 exact ⟨cs, h1, h2, fun j hj hq => h3 j hj (hPQ j hj hq)⟩
theorem outok_new (W : World) (base M : Nat) (rows : List (List Int)) : OutOK (W.alloc (.cells (madeCells #[.slice none 0 0] M) 22)) base W.heap.size M (fun _ => False) rows :=
 ⟨_, heap_alloc_new _ _, by simp [size_madeCells], fun _ _ h => h.elim⟩
theorem R2_new {W W1 : World} {base : Nat} {v : Value} {rows : List (List Int)} (h : R2 W base (fun _ => True) v rows) (hb : Below W.heap.size W W1) : R2 W1 base (fun q => q ≠ W.heap.size) v rows :=
 Kd.R_below (Kd.R_mono (Kd.R_bound h) (fun k hk => by have := hk.2.2.1; omega)) hb
theorem R_newer {W : World} {base b g : Nat} {v : Value} {l : List Int} (h : (Kd.int .i64).R 3 W base (fun _ => True) v l) (hg : g < base) (hb : b ≤ base) : (Kd.int .i64).R 3 W b (fun q => q ≠ g) v l :=
 Kd.R_lower (Kd.R_mono (Kd.R_bound h) (fun k hk => by have := hk.2.1; omega)) hb
theorem R2_at {W : World} {base : Nat} {ok : Nat → Prop} {A : Option Addr} {n c : Nat} {rows : List (List Int)} (h : R2 W base ok (.slice A n c) rows) (j : Nat) (hj : j < n) :
  ∃ ad B c, A = some ad ∧ W.cell? (ad.add j) = some (.slice B (rows.getD j []).length c) ∧ (rows.getD j []).length ≤ c ∧ (Kd.int .i64).C W B (rows.getD j []).length (rows.getD j []) := by
 have hC := (Kd.R_reads' h)
 rw [← hC.1] at hC
 exact row_at hC.2.2 j hj
theorem R_C {W : World} {t base : Nat} {ok : Nat → Prop} {A : Option Addr} {n c : Nat} {xs : List Int} (h : (Kd.int .i64).R t W base ok (.slice A n c) xs) : (Kd.int .i64).C W A n xs := by
 obtain ⟨h1, _, h3⟩ := Kd.R_reads' h
 rw [h1]; exact h3
theorem R2_row {W : World} {base : Nat} {ok : Nat → Prop} {A : Option Addr} {n c : Nat} {rows : List (List Int)} (h : R2 W base ok (.slice A n c) rows) (j : Nat) (hj : j < n) :
  ∃ ad B c, A = some ad ∧ W.cell? (ad.add j) = some (.slice B (rows.getD j []).length c) ∧ (rows.getD j []).length ≤ c ∧ (Kd.int .i64).R 3 W base ok (.slice B (rows.getD j []).length c) (rows.getD j []) := by
 have hn := (Kd.R_reads' h).1
 obtain ⟨_, inner, ⟨h1, h2⟩, h3, h4⟩ := h
 rcases h2 with ⟨e, _⟩ | ⟨g, cap, cur, e, hb, hg, hle, hmax, hsz, htk⟩
 · injection e with _ e _; omega
 injection e with e1 e2 e3
 have hjr : j < rows.length := by omega
 obtain ⟨v, hv, hR⟩ := h4 j _ (List.getElem?_eq_getElem hjr)
 have hp : rows.getD j [] = rows[j] := by rw [List.getD_eq_getElem?_getD, List.getElem?_eq_getElem hjr]; rfl
 have hil : inner.length = rows.length * 1 := h3
 have hji : j < inner.length := by omega
 have hv1 : (inner.drop (j * 1)).take 1 = [v] := hv
 rw [Nat.mul_one, List.drop_eq_getElem_cons hji, List.take_succ_cons, List.take_zero] at hv1
 have hv2 : inner[j] = v := by injection hv1
 have hR2 := Kd.R_mono (ok' := ok) hR (fun k hk => hk.1)
 obtain ⟨B, c', hB, hc', _⟩ := Kd.R_reads hR2
 refine ⟨⟨g, 0, none⟩, B, c', e1, ?_, by rw [hp]; exact hc', by rw [hp, ← hB]; exact hR2⟩
 have htk1 : cur.toList.take (rows.length * 1) = inner := htk
 rw [add_plain, blk_cell hg j, hp, ← hB, ← hv2, ← Array.getElem?_toList]
 have : inner[j]? = cur.toList[j]? := by rw [← htk1, List.getElem?_take, if_pos (by omega)]
 rw [← this, List.getElem?_eq_getElem hji]
theorem rows_info : (Tryd.prog.info? 22).map (fun i => (i.zero, i.size, i.bytes)) = some (some (.slice none 0 0), 1, 24) := by kernel_rfl
structure FEnv (W : World) (g1 gn gh gf : Nat) (A : Option Addr) (N H c : Nat) (xs : List Int) : Prop where
 x : W.heap[g1]? = some (.cells #[.slice A N c] 22 (0, 0))
 n : W.heap[gn]? = some (.cells #[.int .i64 (N : Int)] 3 (0, 0))
 h : W.heap[gh]? = some (.cells #[.int .i64 (H : Int)] 3 (0, 0))
 f : W.heap[gf]? = some (.cells #[.func (.func 101) #[] #[.pointer (some ⟨gn, 0, none⟩), .pointer (some ⟨gh, 0, none⟩), .pointer (some ⟨g1, 0, none⟩), .pointer (some ⟨gf, 0, none⟩)]] 99 (0, 0))
 c : (Kd.int .i64).C W A N xs
theorem FEnv.below {W W1 : World} {g1 gn gh gf : Nat} {A : Option Addr} {N H c : Nat} {xs : List Int} (h : FEnv W g1 gn gh gf A N H c xs) (hb : Below W.heap.size W W1) : FEnv W1 g1 gn gh gf A N H c xs :=
 ⟨blk_below h.x hb, blk_below h.n hb, blk_below h.h hb, blk_below h.f hb, Kd.C_below h.c hb⟩
theorem alloc_set' (W : World) (cs : Array Value) (t k : Nat) (v : Value) : (W.alloc (.cells cs t)).setCell ⟨W.heap.size, k, none⟩ v = W.alloc (.cells (cs.setIfInBounds k v) t) := by
 first
 | (simp; done)
 | (go_simp; done)
set_option maxHeartbeats 8000000 in
theorem halves_zero (N H c g1 gn gh gf : Nat) (A : Option Addr) (xs : List Int) (hl : xs.length = N) (hH : 1 ≤ H) (hN64 : H ≤ 64) (fr : Nat) (W : World) (hfr : fr < N) (hE : FEnv W g1 gn gh gf A N H c xs) :
  Calls Tryd.prog 101 #[.int .i64 (fr : Int), .int .i64 (N : Int), .pointer (some ⟨gn, 0, none⟩), .pointer (some ⟨gh, 0, none⟩), .pointer (some ⟨g1, 0, none⟩), .pointer (some ⟨gf, 0, none⟩)] W
   fun e_ w' => ∃ v, e_ = .returned v ∧ Aside0 (R2 w' W.heap.size (fun _ => True) v (halvesL xs H 0 fr N)) ∧ Aside0 (Below W.heap.size W w') := by
 have hmk := print_make 22 3 .i64 8 Tryd.underlying22 turn_info (by decide) H (by omega)
 have k1 := cell_of_one hE.x
 have k2 := cell_of_one hE.n
 have k3 := cell_of_one hE.h
 obtain ⟨ad, rfl, hcs⟩ := sp_ad hE.c (by omega)
 have k4 := sp_cell hE.c fr hfr
 obtain ⟨x, hx⟩ : ∃ x, xs.getD fr 0 = x := ⟨_, rfl⟩
 rw [hx] at k4
 have hA := below_alloc (Below.refl W.heap.size W) (.cells (madeCells #[.int .i64 0] H) 3)
 have k5 := pw_cell_below hA k1
 have k6 := pw_cell_below hA k4
 clear hA
 have hown := own_made W W.heap.size 3 .i64 H (Nat.le_refl _) (by omega)
 have hst := own_store hown ((0 : Nat) : Int) x
 rw [Int.toNat_natCast, alloc_set'] at hst
 obtain ⟨⟨yy, hcz⟩, hfz⟩ := own_free hown 0 (by omega)
 have HR : Aside0 ((Kd.int .i64).R 3 (W.alloc (.cells ((madeCells #[.int .i64 0] H).setIfInBounds 0 (.int .i64 x)) 3)) W.heap.size (fun k => k ≠ W.heap.size + 1) (.slice (some ⟨W.heap.size, 0, none⟩) H H) ((List.replicate H 0).set 0 x)) :=
  ⟨Kd.R_of_own (enc := Value.int .i64) (h1 := fun _ => rfl) (ok := fun k => k ≠ W.heap.size + 1) (xs := (List.replicate H 0).set 0 x) (by rw [List.length_set, List.length_replicate]; exact hst.1) (fun k hk => by injection hk with hk; simp only at hk; omega)⟩
 have HX := Aside0.mk hx
 have j0 : (fr : Int) < (N : Int) := by omega
 clear hE hcs hx hown hst
 go_enter Tryd.func101, Tryd.ntmps101
 go_wp2
 go_ret
 refine ⟨_, rfl, ⟨?_⟩, ⟨by repeat (first | exact Below.refl _ _ | apply below_alloc | apply pw_below_drewN)⟩⟩
 have hg := heap_alloc_new (W.alloc (.cells ((madeCells #[.int .i64 0] H).setIfInBounds 0 (.int .i64 x)) 3)) (.cells #[.slice (some ⟨W.heap.size, 0, none⟩) H H] 22)
 have hsz : (W.alloc (.cells ((madeCells #[.int .i64 0] H).setIfInBounds 0 (.int .i64 x)) 3)).heap.size = W.heap.size + 1 := by simp
 rw [hsz] at hg
 have := rows_of (base := W.heap.size) (rows := halvesL xs H 0 fr N) (m := 1) (by omega) hg rfl (by decide) rfl (fun j hj => by
  obtain rfl : j = 0 := by omega
  refine ⟨_, rfl, ?_⟩
  show (Kd.int .i64).R _ _ _ _ _ ((List.replicate H (0 : Int)).set 0 (xs.getD fr 0))
  rw [HX.out]
  exact Kd.R_alloc HR.out _)
 simpa using this
theorem add2_r (g : Nat) (A1 A2 : Option Addr) (h c1 c2 : Nat) (l1 l2 : List Int) (W : World) (hg : W.heap[g]? = some (.cells #[.slice A1 h c1, .slice A2 h c2] 22 (0, 0))) (hl1 : l1.length = h) (hl2 : l2.length = h) (hC1 : (Kd.int .i64).C W A1 h l1) (hC2 : (Kd.int .i64).C W A2 h l2) (h1 : h ≤ c1) (h2 : h ≤ c2) (hh : h ≤ 1000000) (hin : In64 l1) :
  Calls Tryd.prog 103 #[.slice (some ⟨g, 0, none⟩) 2 2] W fun e w' => ∃ v0_ : Value, e = .returned v0_ ∧ Kd.R (Kd.int .i64) 3 w' W.heap.size (fun _ => True) v0_ (addL l1 l2) ∧ Below W.heap.size W w' := by
 have hone : ∀ {A : Option Addr} {c : Nat} {l : List Int} {j : Nat}, l.length = h → (Kd.int .i64).C W A h l → h ≤ c → W.cell? ⟨g, j, none⟩ = some (.slice A h c) →
   ∃ cs : List Value, cs.length = (Kd.slice 3 (Kd.int .i64)).sz ∧ (Kd.slice 3 (Kd.int .i64)).K W l cs ∧ ∀ i u, cs[i]? = some u → W.cell? ((⟨g, 0, none⟩ : Addr).add (j * (Kd.slice 3 (Kd.int .i64)).sz + i)) = some u := by
  intro A c l j hl hC hc hcell
  subst hl
  refine ⟨[.slice A l.length c], rfl, ⟨A, c, rfl, hc, hC⟩, fun i u hu => ?_⟩
  cases i with
  | zero =>
    have hu' : Value.slice A l.length c = u := by simpa using hu
    subst hu'
    rw [show j * (Kd.slice 3 (Kd.int .i64)).sz + 0 = j from by show j * 1 + 0 = j; omega, add_plain]
    exact hcell
  | succ i => simp at hu
 have hC : (Kd.slice 3 (Kd.int .i64)).C W (some ⟨g, 0, none⟩) 2 [l1, l2] := ⟨rfl, by decide, fun _ => ⟨⟨g, 0, none⟩, rfl, fun j p hj => by
  match j, hj with
  | 0, hj =>
    obtain rfl : l1 = p := by simpa using hj
    exact hone hl1 hC1 h1 ((blk_cell hg 0).trans rfl)
  | 1, hj =>
    obtain rfl : l2 = p := by simpa using hj
    exact hone hl2 hC2 h2 ((blk_cell hg 1).trans rfl)⟩⟩
 have := add_go (some ⟨g, 0, none⟩) 2 2 [l1, l2] W rfl hC (by decide) (fun v hv => by
  rcases List.mem_cons.1 hv with rfl | hv
  · omega
  · rw [List.mem_singleton.1 hv]; omega)
 rwa [addAll_two' l1 l2 hin] at this
set_option maxHeartbeats 32000000 in
set_option maxRecDepth 100000 in
theorem halves_go (N H c g1 gn gh gf : Nat) (A : Option Addr) (xs : List Int) (hl : xs.length = N) (hin : In64 xs) (hH : 1 ≤ H) (hN64 : N ≤ 64) (hHN : H ≤ N) : ∀ (e fr st : Nat) (W : World), st * 2 ^ e = N → fr < st → FEnv W g1 gn gh gf A N H c xs →
  Calls Tryd.prog 101 #[.int .i64 (fr : Int), .int .i64 (st : Int), .pointer (some ⟨gn, 0, none⟩), .pointer (some ⟨gh, 0, none⟩), .pointer (some ⟨g1, 0, none⟩), .pointer (some ⟨gf, 0, none⟩)] W
   fun e_ w' => ∃ v, e_ = .returned v ∧ Aside0 (R2 w' W.heap.size (fun _ => True) v (halvesL xs H e fr st)) ∧ Aside0 (Below W.heap.size W w') := by
 intro e
 induction e with
 | zero =>
   intro fr st W hst hfr hE
   obtain rfl : st = N := by simpa using hst
   exact halves_zero st H c g1 gn gh gf A xs hl hH (by omega) fr W hfr hE
 | succ e ih =>
   intro fr st W hst hfr hE
   obtain ⟨M, hM⟩ : ∃ M, 2 ^ e = M := ⟨_, rfl⟩
   have hM0 : 0 < M := by rw [← hM]; exact Nat.two_pow_pos e
   obtain ⟨S2, hS2⟩ : ∃ S2, 2 * st = S2 := ⟨_, rfl⟩
   obtain ⟨F2, hF2⟩ : ∃ F2, fr + st = F2 := ⟨_, rfl⟩
   have hst2 : S2 * 2 ^ e = N := by rw [← hS2, ← hst, Nat.pow_succ]; rw [Nat.mul_comm 2 st, Nat.mul_assoc, Nat.mul_comm 2]
   have hS2N : S2 ≤ N := by rw [← hst2]; exact Nat.le_mul_of_pos_right _ (Nat.two_pow_pos e)
   have hMN : M ≤ N := by rw [← hst2, hM]; exact Nat.le_mul_of_pos_left _ (by omega)
   have hPb : ∀ k, k < M → k * st ≤ 64 := fun k hk => by
    have h1 : k * st ≤ M * S2 := Nat.mul_le_mul (by omega) (by omega)
    rw [Nat.mul_comm M S2, ← hM, hst2] at h1; omega
   have HIE : Aside0 (∀ W1, FEnv W1 g1 gn gh gf A N H c xs → Calls Tryd.prog 101 #[.int .i64 (fr : Int), .int .i64 (S2 : Int), .pointer (some ⟨gn, 0, none⟩), .pointer (some ⟨gh, 0, none⟩), .pointer (some ⟨g1, 0, none⟩), .pointer (some ⟨gf, 0, none⟩)] W1 fun e_ w' => ∃ v, e_ = .returned v ∧ Aside0 (R2 w' W1.heap.size (fun _ => True) v (halvesL xs H e fr S2)) ∧ Aside0 (Below W1.heap.size W1 w')) := ⟨fun W1 h1 => ih fr S2 W1 hst2 (by omega) h1⟩
   have HIO : Aside0 (∀ W1, FEnv W1 g1 gn gh gf A N H c xs → Calls Tryd.prog 101 #[.int .i64 (F2 : Int), .int .i64 (S2 : Int), .pointer (some ⟨gn, 0, none⟩), .pointer (some ⟨gh, 0, none⟩), .pointer (some ⟨g1, 0, none⟩), .pointer (some ⟨gf, 0, none⟩)] W1 fun e_ w' => ∃ v, e_ = .returned v ∧ Aside0 (R2 w' W1.heap.size (fun _ => True) v (halvesL xs H e F2 S2)) ∧ Aside0 (Below W1.heap.size W1 w')) := ⟨fun W1 h1 => ih F2 S2 W1 hst2 (by omega) h1⟩
   have HLE : Aside0 ((halvesL xs H e fr S2).length = M) := ⟨by rw [halvesL_length, hM]⟩
   have HLO : Aside0 ((halvesL xs H e F2 S2).length = M) := ⟨by rw [halvesL_length, hM]⟩
   have HRE : Aside0 (∀ k, k < M → ((halvesL xs H e fr S2).getD k []).length = H ∧ In64 ((halvesL xs H e fr S2).getD k [])) := ⟨fun k hk => halvesL_row xs hin H hH e fr S2 k (by rw [hM]; exact hk)⟩
   have HRO : Aside0 (∀ k, k < M → ((halvesL xs H e F2 S2).getD k []).length = H) := ⟨fun k hk => (halvesL_row xs hin H hH e F2 S2 k (by rw [hM]; exact hk)).1⟩
   have HLow : Aside0 (∀ k, k < M → (halvesL xs H (e + 1) fr st).getD k [] = addL ((halvesL xs H e fr S2).getD k []) (turnL ((halvesL xs H e F2 S2).getD k []) ((k : Int) * (st : Int)))) := ⟨fun k hk => by rw [halvesL_low _ _ _ _ _ _ (by rw [hM]; exact hk), hS2, hF2]⟩
   have HHigh : Aside0 (∀ k, k < M → (halvesL xs H (e + 1) fr st).getD (k + M) [] = lessL ((halvesL xs H e fr S2).getD k []) (turnL ((halvesL xs H e F2 S2).getD k []) ((k : Int) * (st : Int)))) := ⟨fun k hk => by rw [← hM, halvesL_high _ _ _ _ _ _ (by rw [hM]; exact hk), hS2, hF2]⟩
   have HLA : Aside0 ((halvesL xs H (e + 1) fr st).length = 2 * M) := ⟨by rw [halvesL_length, Nat.pow_succ, hM]; omega⟩
   generalize halvesL xs H e fr S2 = rE at *
   generalize halvesL xs H e F2 S2 = rO at *
   generalize halvesL xs H (e + 1) fr st = rA at *
   have w1 : IntKind.i64.wrap (2 * (st : Int)) = (S2 : Int) := by rw [IntKind.wrap_i64]; omega
   have w2 : IntKind.i64.wrap ((fr : Int) + (st : Int)) = (F2 : Int) := by rw [IntKind.wrap_i64]; omega
   have hne : ((st : Int) == (N : Int)) = false := by simp; omega
   have hne2 : (st == N) = false := by simp; omega
   have hM2 : ∃ M2, 2 * M = M2 := ⟨_, rfl⟩
   obtain ⟨M2, hM2⟩ := hM2
   have w3 : 2 * (M : Int) = (M2 : Int) := by omega
   have hmk := print_make_of 47 22 (.slice none 0 0) 24 Tryd.underlying47 rows_info rfl (by decide) M2 (by omega)
   have k2 := cell_of_one hE.n
   have k3 := cell_of_one hE.f
   have HENV := Aside0.mk hE
   have HB : Aside0 (Below W.heap.size W W) := ⟨Below.refl _ _⟩
   have HPB := Aside0.mk hPb
   clear hE ih hst hst2 hPb hM
   go_enter Tryd.func101, Tryd.ntmps101
   go_wp2
   go_region_with (first
    | (go_at_call 101; (with_reducible refine (HIE.out _ (FEnv.below HENV.out (by repeat (first | exact HB.out | apply pw_below_drewN | apply below_drew1)))).mono ?_); rintro e_ wk ⟨vE, rfl, RE0, Sm⟩; have HBn := Aside0.mk (below_step (by repeat (first | exact HB.out | apply pw_below_drewN | apply below_drew1)) Sm.out); have RE := Aside0.mk (Kd.R_lower RE0.out (Below.size (by repeat (first | exact HB.out | apply pw_below_drewN | apply below_drew1)))); (try (have ROn := Aside0.mk (Kd.R_below (by repeat (first | exact RO.out | apply Kd.R_drewN | apply Kd.R_drew)) Sm.out); clear RO; have RO := ROn; clear ROn)); clear HB; have HB := HBn; clear HBn Sm RE0; have k4 := cell_of_one (FEnv.below HENV.out HB.out).f)
    | (go_at_call 101; (with_reducible refine (HIO.out _ (FEnv.below HENV.out (by repeat (first | exact HB.out | apply pw_below_drewN | apply below_drew1)))).mono ?_); rintro e_ wk ⟨vO, rfl, RO0, Sm⟩; have HBn := Aside0.mk (below_step (by repeat (first | exact HB.out | apply pw_below_drewN | apply below_drew1)) Sm.out); have RO := Aside0.mk (Kd.R_lower RO0.out (Below.size (by repeat (first | exact HB.out | apply pw_below_drewN | apply below_drew1)))); (try (have REn := Aside0.mk (Kd.R_below (by repeat (first | exact RE.out | apply Kd.R_drewN | apply Kd.R_drew)) Sm.out); clear RE; have RE := REn; clear REn)); clear HB; have HB := HBn; clear HBn Sm RO0; have k4 := cell_of_one (FEnv.below HENV.out HB.out).f))
   all_goals
    obtain ⟨AE, cE, hvE, hcE, _⟩ := Kd.R_reads RE.out
    obtain ⟨AO, cO, hvO, hcO, _⟩ := Kd.R_reads RO.out
    rw [HLE.out] at hvE hcE
    rw [HLO.out] at hvO hcO
    subst hvE
    subst hvO
    have hgW : W.heap.size ≤ wk.heap.size := HB.out.size
    have hnew := below_alloc (Below.refl wk.heap.size wk) (.cells (madeCells #[.slice none 0 0] M2) 22)
    have E0 : Aside0 (R2 (wk.alloc (.cells (madeCells #[.slice none 0 0] M2) 22)) W.heap.size (fun q => q ≠ wk.heap.size) (.slice AE M cE) rE) := ⟨R2_new RE.out hnew⟩
    have O0 : Aside0 (R2 (wk.alloc (.cells (madeCells #[.slice none 0 0] M2) 22)) W.heap.size (fun q => q ≠ wk.heap.size) (.slice AO M cO) rO) := ⟨R2_new RO.out hnew⟩
    have U0 := Aside0.mk (outok_new wk W.heap.size M2 rA)
    have HB0 := Aside0.mk (below_alloc HB.out (.cells (madeCells #[.slice none 0 0] M2) 22))
    obtain ⟨g, hg⟩ : ∃ g, wk.heap.size = g := ⟨_, rfl⟩
    clear hnew RE RO HB k2 k3 HIE HIO
    go_wp2
    rw [hg] at E0 O0 U0 hgW
    try simp only [hg]
    go_loopw [46] (fun v wr => ∃ (k : Nat), k ≤ M ∧ v = .int .i64 (k : Int) ∧ Aside0 (R2 wr W.heap.size (fun q => q ≠ g) (.slice AE M cE) rE) ∧ Aside0 (R2 wr W.heap.size (fun q => q ≠ g) (.slice AO M cO) rO) ∧ Aside0 (OutOK wr W.heap.size g M2 (fun j => j < k ∨ (M ≤ j ∧ j < M + k)) rA) ∧ Aside0 (Below W.heap.size W wr)) (fun v _ => M - (intOf v).toNat)
    case atStart => exact ⟨0, by omega, rfl, E0, O0, ⟨U0.out.imp (fun j _ h => by omega)⟩, HB0⟩
    case round =>
     clear E0 O0 U0 HB0
     obtain ⟨k, hk, rfl, RE, RO, HU, HB⟩ := hrel
     by_cases hlt : k < M
     ·
      obtain ⟨P, hP⟩ : ∃ P, (k : Int) * (st : Int) = P := ⟨_, rfl⟩
      have hPb := HPB.out k hlt
      have hP0 : 0 ≤ P ∧ P ≤ 64 := by rw [← hP]; exact ⟨Int.mul_nonneg (by omega) (by omega), by rw [← Int.natCast_mul]; omega⟩
      have hlow := HLow.out k hlt
      have hhigh := HHigh.out k hlt
      rw [hP] at hlow hhigh
      obtain ⟨p0, p1⟩ := hP0
      obtain ⟨adO, BO, dO, hAO, kO, lO, CO⟩ := R2_at RO.out k hlt
      subst hAO
      rw [HRO.out k hlt] at kO lO CO
      obtain ⟨adE, BE, dE, hAE, _, lE, _⟩ := R2_at RE.out k hlt
      subst hAE
      obtain ⟨ro, hro⟩ : ∃ ro, rO.getD k [] = ro := ⟨_, rfl⟩
      obtain ⟨re, hre⟩ : ∃ re, rE.getD k [] = re := ⟨_, rfl⟩
      have hl1 := HRO.out k hlt
      have hl2 := HRE.out k hlt
      rw [hro] at hlow hhigh CO hl1
      rw [hre] at hlow hhigh lE hl2
      have HLo := Aside0.mk hlow
      have HHi := Aside0.mk hhigh
      have HCO := Aside0.mk CO
      have HL1 := Aside0.mk hl1
      have HL2 := Aside0.mk hl2.1
      have HI2 := Aside0.mk hl2.2
      have HRX := Aside0.mk hre
      have HLT : Aside0 ((turnL ro P).length = H) := ⟨by rw [turnL_length, hl1]⟩
      have HAL : Aside0 ((addL re (turnL ro P)).length = H) := ⟨by rw [addL_length (by rw [turnL_length, hl1, hl2.1]), hl2.1]⟩
      have HLL : Aside0 ((lessL re (turnL ro P)).length = H) := ⟨by rw [lessL_length (by rw [turnL_length, hl1, hl2.1]), hl2.1]⟩
      have j0 : (k : Int) < (M : Int) := by omega
      have j1 : (k : Int) < (M2 : Int) := by omega
      have j2 : (k : Int) + (M : Int) < (M2 : Int) := by omega
      have i1 : ((k : Int) + (M : Int)).toNat = k + M := by omega
      have hgr : g < wr.heap.size := by obtain ⟨cs, h1, _⟩ := HU.out; exact blk_lt h1
      have ST0 : True := trivial
      clear hro hre hlow hhigh CO hl1 hl2 hPb lE
      go_wp2_with (first
       | (go_at_call 102; clear ST0; (with_reducible refine (turn_go BO H dO ro P _ HL1.out HCO.out (by omega) (by omega) (by omega)).mono ?_); rintro e_ wt ⟨vt, rfl, Rt, Bt⟩; have RT := Aside0.mk (R_newer Rt hgr HB.out.size); obtain ⟨At, ct, hvt, hct, Ct⟩ := Kd.R_reads Rt; rw [HLT.out] at hvt hct Ct; subst hvt; have CT := Aside0.mk Ct; have REt := Aside0.mk (Kd.R_below RE.out Bt); have HUt := Aside0.mk (HU.out.below Bt); have HBt := Aside0.mk (below_step HB.out Bt); obtain ⟨adE', BE', dE', hAE, kE, lE, CEr⟩ := R2_at REt.out k hlt; injection hAE with hAE; subst hAE; rw [HRX.out, HL2.out] at kE lE CEr; have CEt := Aside0.mk CEr; have Bt2 := Aside0.mk Bt; clear RE HU HB Rt Bt Ct CEr; have ST1 : True := trivial)
       | (go_at_call 103; clear ST1; (with_reducible refine (add2_r _ BE' At H dE' ct re (turnL ro P) _ (heap_alloc_new _ _) HL2.out HLT.out (Kd.C_alloc CEt.out _) (Kd.C_alloc CT.out _) lE hct (by omega) HI2.out).mono ?_); rintro e_ wa ⟨va, rfl, Ra, Ba⟩; obtain ⟨Aa, ca, hva0, _, _⟩ := Kd.R_reads Ra; rw [HAL.out] at hva0; subst hva0; have hb1 := below_then (below_alloc (Below.refl wt.heap.size wt) (.cells #[.slice BE' H dE', .slice At H ct] 22)) (by simp) Ba; have HUa := Aside0.mk (HUt.out.below hb1); have hva := R_newer (b := W.heap.size) Ra (Nat.lt_of_lt_of_le hgr (Nat.le_trans Bt2.out.size (by simp))) (Nat.le_trans HBt.out.size (by simp)); have BaF := hb1; have HBa := Aside0.mk (below_step HBt.out hb1); have REa := Kd.R_below REt.out hb1; have RTa := Kd.R_below RT.out hb1; have ROa := Aside0.mk (Kd.R_below (Kd.R_below RO.out Bt2.out) hb1); obtain ⟨⟨yy, hcz⟩, hfz⟩ := HUa.out.free k (by omega); have HU3 := Aside0.mk (HUa.out.put k (by omega) (u := .slice Aa H ca) (by rw [HLo.out]; exact hva)); have RE3 := Aside0.mk (Kd.R_far REa (p := ⟨g, k, none⟩) (fun q hq => hq) (.slice Aa H ca)); have RT3 := Kd.R_far RTa (p := ⟨g, k, none⟩) (fun q hq => hq) (.slice Aa H ca); have RO3 := Aside0.mk (Kd.R_far ROa.out (p := ⟨g, k, none⟩) (fun q hq => hq) (.slice Aa H ca)); have HB3 := Aside0.mk (Below.setCell HBa.out (p := ⟨g, k, none⟩) hgW (.slice Aa H ca)); obtain ⟨adE2, BE2, dE2, hAE2, kE2, lE2, CE20⟩ := R2_at RE3.out k hlt; injection hAE2 with hAE2; subst hAE2; rw [HRX.out, HL2.out] at kE2 lE2 CE20; have CE2 := Aside0.mk CE20; have hct2 := (Kd.R_reads' RT3).2.2; rw [HLT.out] at hct2; have CT2 := Aside0.mk hct2; have hsz3 : wr.heap.size ≤ (wa.setCell ⟨g, k, none⟩ (.slice Aa H ca)).heap.size := Nat.le_trans (Nat.le_trans Bt2.out.size hb1.size) (by simp); clear REa RTa hb1 hva Ra Ba RT3 CE20 hct2 kE HUt HBt REt RT HUa HBa ROa RO Bt2 CT CEt; have ST2 : True := trivial)
       | (go_at_call 104; clear ST2 hcz hfz; (with_reducible refine (less_go BE2 At H dE2 H ct re (turnL ro P) _ HL2.out CE2.out HLT.out CT2.out (by omega) (by omega)).mono ?_); rintro e_ wl ⟨vl, rfl, Rl, Bl⟩; obtain ⟨Ab, cb, hvl0, _, _⟩ := Kd.R_reads Rl; rw [HLL.out] at hvl0; subst hvl0; have HUl := Aside0.mk (HU3.out.below Bl); obtain ⟨⟨yy2, hcz⟩, hfz⟩ := HUl.out.free (k + M) (by omega); have hvl := Aside0.mk (R_newer (b := W.heap.size) Rl (Nat.lt_of_lt_of_le hgr hsz3) (Nat.le_trans hgW (Nat.le_of_lt (Nat.lt_of_lt_of_le hgr hsz3)))); have REl := Aside0.mk (Kd.R_below RE3.out Bl); have ROl := Aside0.mk (Kd.R_below RO3.out Bl); have HBl := Aside0.mk (below_step HB3.out Bl); clear Rl Bl HU3 RE3 RO3 HB3 CE2 CT2 kE2; have ST3 : True := trivial))
      go_roundw
      case rel =>
       have HU5 := HUl.out.put (k + M) (by omega) (u := .slice Ab H cb) (by rw [HHi.out]; exact hvl.out)
       exact ⟨k + 1, by omega, by go_num, ⟨Kd.R_far REl.out (fun q hq => hq) (.slice Ab H cb)⟩, ⟨Kd.R_far ROl.out (fun q hq => hq) (.slice Ab H cb)⟩, ⟨HU5.imp (fun j _ h => by omega)⟩, ⟨Below.setCell HBl.out hgW (.slice Ab H cb)⟩⟩
      case measure => simp [intOf]; omega
     ·
      obtain rfl : M = k := by omega
      go_wp2
      go_ret
      refine ⟨_, rfl, ⟨?_⟩, HB⟩
      have := HU.out.all hgW (by omega) (by rw [HLA.out, hM2]) (fun j hj => by omega)
      exact this
def fftMay (n : Nat) : Bool := n == 2 || n == 4 || n == 8 || n == 16 || n == 32 || n == 64
theorem fftMay_cases {n : Nat} (h : fftMay n = true) : n = 2 ∨ n = 4 ∨ n = 8 ∨ n = 16 ∨ n = 32 ∨ n = 64 := by
 simp only [fftMay, Bool.or_eq_true, beq_iff_eq] at h; omega
theorem fftMay_fin : ∀ n : Fin 65, fft_may.f ((n.1 : Nat) : Int) = some (fftMay n.1) := by decide +kernel
theorem fft_may_f (n : Nat) : fft_may.f (n : Int) = some (fftMay n) := by
 by_cases h : n < 65
 · exact fftMay_fin ⟨n, h⟩
 ·
  have e : fftMay n = false := by
   cases hb : fftMay n
   · rfl
   · rcases fftMay_cases hb with h | h | h | h | h | h <;> omega
  unfold fft_may.f
  rw [e]
  have h1 : ¬ (n : Int) ≤ 64 := by omega
  have h2 : (n : Int) ≥ 2 := by omega
  simp [h1, h2]
def logOf (n : Nat) : Nat := if n = 2 then 1 else if n = 4 then 2 else if n = 8 then 3 else if n = 16 then 4 else if n = 32 then 5 else 6
theorem logOf_pow {n : Nat} (h : fftMay n = true) : 2 ^ logOf n = n := by
 rcases fftMay_cases h with rfl | rfl | rfl | rfl | rfl | rfl <;> rfl
def spinsF (l : List Int) : List (List Int) := if fftMay l.length = true then halvesL l (l.length / 2) (logOf l.length) 0 1 else []
def fft_Spins.f (l0 : List Int) : Option (List (List Int)) := if decide (l0.length ≤ 1000000) && l0.all (fun x => decide (-9223372036854775808 ≤ x) && decide (x ≤ 9223372036854775807)) then some (spinsF l0) else none
theorem heap4 (w : World) (o1 o2 o3 o4 : Obj) : ((((w.alloc o1).alloc o2).alloc o3).alloc o4).heap[w.heap.size]? = some o1 ∧ ((((w.alloc o1).alloc o2).alloc o3).alloc o4).heap[w.heap.size + 1]? = some o2 ∧ ((((w.alloc o1).alloc o2).alloc o3).alloc o4).heap[w.heap.size + 1 + 1]? = some o3 ∧ ((((w.alloc o1).alloc o2).alloc o3).alloc o4).heap[w.heap.size + 1 + 1 + 1]? = some o4 := by
 have s : ∀ (X : World) (o : Obj), (X.alloc o).heap.size = X.heap.size + 1 := fun X o => by simp
 refine ⟨?_, ?_, ?_, ?_⟩
 ·
  rw [Below.heap_alloc _ _ _ (by simp only [s]; omega), Below.heap_alloc _ _ _ (by simp only [s]; omega), Below.heap_alloc _ _ _ (by simp only [s]; omega)]
  exact heap_alloc_new w o1
 ·
  rw [Below.heap_alloc _ _ _ (by simp only [s]; omega), Below.heap_alloc _ _ _ (by simp only [s]; omega), ← s w o1]
  exact heap_alloc_new _ o2
 ·
  rw [Below.heap_alloc _ _ _ (by simp only [s]; omega), ← s w o1, ← s (w.alloc o1) o2]
  exact heap_alloc_new _ o3
 ·
  rw [← s w o1, ← s (w.alloc o1) o2, ← s ((w.alloc o1).alloc o2) o3]
  exact heap_alloc_new _ o4
theorem heap4d (w : World) (nd : Nat) (o1 o2 o3 o4 : Obj) : (((((w.alloc o1).alloc o2).drewN nd).alloc o3).alloc o4).heap[w.heap.size]? = some o1 ∧ (((((w.alloc o1).alloc o2).drewN nd).alloc o3).alloc o4).heap[w.heap.size + 1]? = some o2 ∧ (((((w.alloc o1).alloc o2).drewN nd).alloc o3).alloc o4).heap[w.heap.size + 1 + 1]? = some o3 ∧ (((((w.alloc o1).alloc o2).drewN nd).alloc o3).alloc o4).heap[w.heap.size + 1 + 1 + 1]? = some o4 := heap4 w o1 o2 o3 o4
set_option maxHeartbeats 16000000 in
theorem spins_yes (H N c : Nat) (A : Option Addr) (l : List Int) (w : World) (hl : l.length = N) (hC : (Kd.int .i64).C w A N l) (hin : In64 l) (hm : fftMay N = true) (hHN : N / 2 = H) :
  Calls Tryd.prog 77 #[.slice A N c] w fun e w' => ∃ v0_ : Value, e = .returned v0_ ∧ R2 w' w.heap.size (fun _ => True) v0_ (halvesL l H (logOf N) 0 1) ∧ Below w.heap.size w w' := by
 have hN : N = 2 * H ∧ 1 ≤ H ∧ N ≤ 64 := by rcases fftMay_cases hm with rfl | rfl | rfl | rfl | rfl | rfl <;> omega
 obtain ⟨hN2, hH1, hN64⟩ := hN
 have hpow := logOf_pow hm
 have HMY := Aside0.mk (by rw [fft_may_f, hm] : fft_may.f (N : Int) = some true)
 have HGO : Aside0 (∀ (g1 gn gh gf : Nat) (W : World), FEnv W g1 gn gh gf A N H c l → Calls Tryd.prog 101 #[.int .i64 0, .int .i64 1, .pointer (some ⟨gn, 0, none⟩), .pointer (some ⟨gh, 0, none⟩), .pointer (some ⟨g1, 0, none⟩), .pointer (some ⟨gf, 0, none⟩)] W fun e_ w' => ∃ v, e_ = .returned v ∧ Aside0 (R2 w' W.heap.size (fun _ => True) v (halvesL l H (logOf N) 0 1)) ∧ Aside0 (Below W.heap.size W w')) :=
  ⟨fun g1 gn gh gf W h => halves_go N H c g1 gn gh gf A l hl hin hH1 hN64 (by omega) (logOf N) 0 1 W (by rw [hpow]; omega) (by omega) h⟩
 have hmf : ∀ (fn : Fn) (first cap : Array Value) (w : World), (Instr.makeFunc fn first cap).run Tryd.prog w = .ok (.func fn first cap) w := fun _ _ _ _ => rfl
 have hsf : ∀ (a : Addr) (fn : Fn) (first cap : Array Value) (m : Mode) (W : World), (store a (.func fn first cap) m).run Tryd.prog W = stored Tryd.prog W a (.func fn first cap) m := fun _ _ _ _ _ _ => run_store _ _ _ _ _ rfl
 have q1 : Int.tdiv (N : Int) 2 = (H : Int) := by rw [Int.tdiv_eq_ediv_of_nonneg (by omega)]; omega
 have q2 : (N : Int) / 2 = (H : Int) := by omega
 have HC := Aside0.mk hC
 clear hl hC hin hm hpow hN2 hHN
 go_enter Tryd.func77, Tryd.ntmps77
 go_wp2_with (first
  | (go_at_call 76; (with_reducible refine (fft_may.calls _ _ _ HMY.out).mono ?_); rintro e w1 ⟨rfl, ⟨nd, rfl⟩⟩)
  | (go_at_call 101; refine (HGO.out w.heap.size (w.heap.size + 1) (w.heap.size + 1 + 1) (w.heap.size + 1 + 1 + 1) _ ⟨(heap4d w nd _ _ _ _).1, (heap4d w nd _ _ _ _).2.1, (heap4d w nd _ _ _ _).2.2.1, (heap4d w nd _ _ _ _).2.2.2, Kd.C_below HC.out (by repeat (first | exact Below.refl _ _ | apply below_alloc | apply pw_below_drewN))⟩).mono ?_; rintro e w2 ⟨v, rfl, RV, BV⟩))
 go_ret
 exact ⟨v, rfl, Kd.R_lower RV.out (by simp; omega), below_then (by repeat (first | exact Below.refl _ _ | apply below_alloc | apply pw_below_drewN)) (by simp; omega) BV.out⟩
theorem spins_no (N c : Nat) (A : Option Addr) (w : World) (hm : fftMay N = false) (hN : N ≤ 1000000) :
  Calls Tryd.prog 77 #[.slice A N c] w fun e w' => ∃ v0_ : Value, e = .returned v0_ ∧ R2 w' w.heap.size (fun _ => True) v0_ [] ∧ Below w.heap.size w w' := by
 have HMY := Aside0.mk (by rw [fft_may_f, hm] : fft_may.f (N : Int) = some false)
 clear hm
 go_enter Tryd.func77, Tryd.ntmps77
 go_wp2_with (go_at_call 76; (with_reducible refine (fft_may.calls _ _ _ HMY.out).mono ?_); rintro e w1 ⟨rfl, ⟨nd, rfl⟩⟩)
 go_ret
 exact ⟨_, rfl, Kd.R_nil _ _ _ _ _, by repeat (first | exact Below.refl _ _ | apply below_alloc | apply pw_below_drewN)⟩
theorem spins_go (N c : Nat) (A : Option Addr) (l : List Int) (w : World) (hl : l.length = N) (hC : (Kd.int .i64).C w A N l) (hin : In64 l) (hN : N ≤ 1000000) :
  Calls Tryd.prog 77 #[.slice A N c] w fun e w' => ∃ v0_ : Value, e = .returned v0_ ∧ R2 w' w.heap.size (fun _ => True) v0_ (spinsF l) ∧ Below w.heap.size w w' := by
 unfold spinsF
 rw [hl]
 by_cases h : fftMay N = true
 · rw [if_pos h]; exact spins_yes (N / 2) N c A l w hl hC hin h rfl
 · rw [if_neg h]; exact spins_no N c A w (by simpa using h) hN
theorem fft_Spins.calls (A0 : Option Addr) (c0 : Nat) (l0 : List Int) (r : List (List Int)) (w : World) (hr0 : Kd.C (Kd.int .i64) w A0 l0.length l0) (hc0 : l0.length ≤ c0) (h : fft_Spins.f l0 = some r) :
  Calls Tryd.prog 77 #[.slice A0 l0.length c0] w fun e w' => ∃ v0_ : Value, e = .returned v0_ ∧ Kd.R (Kd.slice 3 (Kd.int .i64)) 22 w' w.heap.size (fun _ => True) v0_ r ∧ Below w.heap.size w w' := by
 unfold fft_Spins.f at h
 split at h
 case isFalse => cases h
 rename_i hz
 obtain rfl := Option.some.inj h
 simp only [Bool.and_eq_true, decide_eq_true_eq, List.all_eq_true] at hz
 exact spins_go _ c0 A0 l0 w rfl hr0 (fun x hx => hz.2 x hx) hz.1
def sp_sum (l : List Int) (T : Int → Int) (s : Nat) : Nat → Int
 | 0 => 0
 | n + 1 => wrap64 (sp_sum l T s n + wrap64 (l.getD n 0 * T ((n : Int) * (s : Int))))
def sp_may (h : Nat) : Bool := h == 1 || h == 2 || h == 4 || h == 8 || h == 16 || h == 32
def sp_part (l : List Int) (T : Int → Int) : Int := if sp_may l.length = true then sp_sum l T (32 / l.length) l.length else 0
def cosT (x : Int) : Int := cosAt (x % 64)
def sinT (x : Int) : Int := cosAt ((x % 64 - 16) % 64)
theorem sp_mask : ∀ h : Fin 33, h.1 = 0 ∨ sp_may h.1 = true ∨ (Go.bits .and .i64 ((h.1 : Nat) : Int) (((h.1 : Nat) : Int) - 1) != 0) = true := by decide +kernel
theorem sp_may_cases {h : Nat} (hm : sp_may h = true) : h = 1 ∨ h = 2 ∨ h = 4 ∨ h = 8 ∨ h = 16 ∨ h = 32 := by
 simp only [sp_may, Bool.or_eq_true, beq_iff_eq] at hm
 omega
theorem sp_cos {x : Int} (h0 : -9223372036854775808 ≤ x) (h1 : x ≤ 9223372036854775807) : circle_Cos.f x = some (cosT x) := by
 unfold circle_Cos.f
 rw [if_pos (by simp [ci64b, h0, h1])]
 rfl
set_option maxHeartbeats 16000000 in
theorem sum_cos (A0 : Option Addr) (h c0 : Nat) (l0 : List Int) (w : World) (hG : GlobA w) (hl : l0.length = h) (hr0 : Kd.C (Kd.int .i64) w A0 h l0) (hh : h ≤ 1000000) :
  Calls Tryd.prog 105 #[.slice A0 h c0, .func (.func 45) #[] #[]] w fun e w' => e = .returned (.int .i64 (sp_part l0 cosT)) ∧ Drawn0 w w' := by
 have HG := Aside0.mk hG
 have HC := Aside0.mk hr0
 clear hG hr0
 rcases Bool.eq_false_or_eq_true (sp_may h) with hm | hm
 ·
  have HV : Aside0 (sp_part l0 cosT = sp_sum l0 cosT (32 / h) h) := ⟨by unfold sp_part; rw [hl, if_pos hm]⟩
  have HL := Aside0.mk hl
  clear hl
  rcases sp_may_cases hm with rfl | rfl | rfl | rfl | rfl | rfl
  ·
   clear hm hh
   go_enter Tryd.func105, Tryd.ntmps105
   go_wp2
   go_loopw [6, 26] (fun v6 v wr => ∃ (i : Nat), i ≤ 1 ∧ v = .int .i64 (i : Int) ∧ v6 = .int .i64 (sp_sum l0 cosT (32 / 1) i) ∧ Aside0 (∃ k, wr = w.drewN k)) (fun _ v _ => 1 - (intOf v).toNat)
   case atStart => exact ⟨0, by omega, rfl, rfl, ⟨⟨0, rfl⟩⟩⟩
   case round =>
    obtain ⟨i, hi, rfl, rfl, HK⟩ := hrel
    obtain ⟨k, rfl⟩ := HK.out
    by_cases hlt : i < 1
    ·
     obtain ⟨ad, rfl, hcs⟩ := sp_ad HC.out (by omega)
     have hcell := sp_cell HC.out i hlt
     obtain ⟨x, hx⟩ : ∃ x, l0.getD i 0 = x := ⟨_, rfl⟩
     rw [hx] at hcell
     obtain ⟨s, hs⟩ : ∃ s, sp_sum l0 cosT (32 / 1) i = s := ⟨_, rfl⟩
     have HN : Aside0 (sp_sum l0 cosT (32 / 1) (i + 1) = wrap64 (s + wrap64 (x * cosT ((i : Int) * 32)))) := ⟨by rw [sp_sum, hs, hx]; rfl⟩
     have HF : Aside0 (circle_Cos.f ((i : Int) * 32) = some (cosT ((i : Int) * 32))) := ⟨sp_cos (by omega) (by omega)⟩
     clear hcs hx
     rw [hs]
     clear hs
     go_wp2_with (go_at_call 45; (with_reducible refine (circle_Cos.calls _ _ _ (HG.out.drewN _) HF.out).mono ?_); rintro e w' ⟨rfl, ⟨nd, rfl⟩⟩)
     go_roundw
     case rel => exact ⟨i + 1, by omega, by go_num, by rw [HN.out], ⟨⟨_, rfl⟩⟩⟩
     case measure => simp [intOf]; omega
    ·
     obtain rfl : i = 1 := by omega
     go_wp2
     go_ret
     exact ⟨by rw [HV.out]; rfl, ⟨⟨_, rfl⟩⟩⟩
  ·
   clear hm hh
   go_enter Tryd.func105, Tryd.ntmps105
   go_wp2
   go_loopw [6, 26] (fun v6 v wr => ∃ (i : Nat), i ≤ 2 ∧ v = .int .i64 (i : Int) ∧ v6 = .int .i64 (sp_sum l0 cosT (32 / 2) i) ∧ Aside0 (∃ k, wr = w.drewN k)) (fun _ v _ => 2 - (intOf v).toNat)
   case atStart => exact ⟨0, by omega, rfl, rfl, ⟨⟨0, rfl⟩⟩⟩
   case round =>
    obtain ⟨i, hi, rfl, rfl, HK⟩ := hrel
    obtain ⟨k, rfl⟩ := HK.out
    by_cases hlt : i < 2
    ·
     obtain ⟨ad, rfl, hcs⟩ := sp_ad HC.out (by omega)
     have hcell := sp_cell HC.out i hlt
     obtain ⟨x, hx⟩ : ∃ x, l0.getD i 0 = x := ⟨_, rfl⟩
     rw [hx] at hcell
     obtain ⟨s, hs⟩ : ∃ s, sp_sum l0 cosT (32 / 2) i = s := ⟨_, rfl⟩
     have HN : Aside0 (sp_sum l0 cosT (32 / 2) (i + 1) = wrap64 (s + wrap64 (x * cosT ((i : Int) * 16)))) := ⟨by rw [sp_sum, hs, hx]; rfl⟩
     have HF : Aside0 (circle_Cos.f ((i : Int) * 16) = some (cosT ((i : Int) * 16))) := ⟨sp_cos (by omega) (by omega)⟩
     clear hcs hx
     rw [hs]
     clear hs
     go_wp2_with (go_at_call 45; (with_reducible refine (circle_Cos.calls _ _ _ (HG.out.drewN _) HF.out).mono ?_); rintro e w' ⟨rfl, ⟨nd, rfl⟩⟩)
     go_roundw
     case rel => exact ⟨i + 1, by omega, by go_num, by rw [HN.out], ⟨⟨_, rfl⟩⟩⟩
     case measure => simp [intOf]; omega
    ·
     obtain rfl : i = 2 := by omega
     go_wp2
     go_ret
     exact ⟨by rw [HV.out]; rfl, ⟨⟨_, rfl⟩⟩⟩
  ·
   clear hm hh
   go_enter Tryd.func105, Tryd.ntmps105
   go_wp2
   go_loopw [6, 26] (fun v6 v wr => ∃ (i : Nat), i ≤ 4 ∧ v = .int .i64 (i : Int) ∧ v6 = .int .i64 (sp_sum l0 cosT (32 / 4) i) ∧ Aside0 (∃ k, wr = w.drewN k)) (fun _ v _ => 4 - (intOf v).toNat)
   case atStart => exact ⟨0, by omega, rfl, rfl, ⟨⟨0, rfl⟩⟩⟩
   case round =>
    obtain ⟨i, hi, rfl, rfl, HK⟩ := hrel
    obtain ⟨k, rfl⟩ := HK.out
    by_cases hlt : i < 4
    ·
     obtain ⟨ad, rfl, hcs⟩ := sp_ad HC.out (by omega)
     have hcell := sp_cell HC.out i hlt
     obtain ⟨x, hx⟩ : ∃ x, l0.getD i 0 = x := ⟨_, rfl⟩
     rw [hx] at hcell
     obtain ⟨s, hs⟩ : ∃ s, sp_sum l0 cosT (32 / 4) i = s := ⟨_, rfl⟩
     have HN : Aside0 (sp_sum l0 cosT (32 / 4) (i + 1) = wrap64 (s + wrap64 (x * cosT ((i : Int) * 8)))) := ⟨by rw [sp_sum, hs, hx]; rfl⟩
     have HF : Aside0 (circle_Cos.f ((i : Int) * 8) = some (cosT ((i : Int) * 8))) := ⟨sp_cos (by omega) (by omega)⟩
     clear hcs hx
     rw [hs]
     clear hs
     go_wp2_with (go_at_call 45; (with_reducible refine (circle_Cos.calls _ _ _ (HG.out.drewN _) HF.out).mono ?_); rintro e w' ⟨rfl, ⟨nd, rfl⟩⟩)
     go_roundw
     case rel => exact ⟨i + 1, by omega, by go_num, by rw [HN.out], ⟨⟨_, rfl⟩⟩⟩
     case measure => simp [intOf]; omega
    ·
     obtain rfl : i = 4 := by omega
     go_wp2
     go_ret
     exact ⟨by rw [HV.out]; rfl, ⟨⟨_, rfl⟩⟩⟩
  ·
   clear hm hh
   go_enter Tryd.func105, Tryd.ntmps105
   go_wp2
   go_loopw [6, 26] (fun v6 v wr => ∃ (i : Nat), i ≤ 8 ∧ v = .int .i64 (i : Int) ∧ v6 = .int .i64 (sp_sum l0 cosT (32 / 8) i) ∧ Aside0 (∃ k, wr = w.drewN k)) (fun _ v _ => 8 - (intOf v).toNat)
   case atStart => exact ⟨0, by omega, rfl, rfl, ⟨⟨0, rfl⟩⟩⟩
   case round =>
    obtain ⟨i, hi, rfl, rfl, HK⟩ := hrel
    obtain ⟨k, rfl⟩ := HK.out
    by_cases hlt : i < 8
    ·
     obtain ⟨ad, rfl, hcs⟩ := sp_ad HC.out (by omega)
     have hcell := sp_cell HC.out i hlt
     obtain ⟨x, hx⟩ : ∃ x, l0.getD i 0 = x := ⟨_, rfl⟩
     rw [hx] at hcell
     obtain ⟨s, hs⟩ : ∃ s, sp_sum l0 cosT (32 / 8) i = s := ⟨_, rfl⟩
     have HN : Aside0 (sp_sum l0 cosT (32 / 8) (i + 1) = wrap64 (s + wrap64 (x * cosT ((i : Int) * 4)))) := ⟨by rw [sp_sum, hs, hx]; rfl⟩
     have HF : Aside0 (circle_Cos.f ((i : Int) * 4) = some (cosT ((i : Int) * 4))) := ⟨sp_cos (by omega) (by omega)⟩
     clear hcs hx
     rw [hs]
     clear hs
     go_wp2_with (go_at_call 45; (with_reducible refine (circle_Cos.calls _ _ _ (HG.out.drewN _) HF.out).mono ?_); rintro e w' ⟨rfl, ⟨nd, rfl⟩⟩)
     go_roundw
     case rel => exact ⟨i + 1, by omega, by go_num, by rw [HN.out], ⟨⟨_, rfl⟩⟩⟩
     case measure => simp [intOf]; omega
    ·
     obtain rfl : i = 8 := by omega
     go_wp2
     go_ret
     exact ⟨by rw [HV.out]; rfl, ⟨⟨_, rfl⟩⟩⟩
  ·
   clear hm hh
   go_enter Tryd.func105, Tryd.ntmps105
   go_wp2
   go_loopw [6, 26] (fun v6 v wr => ∃ (i : Nat), i ≤ 16 ∧ v = .int .i64 (i : Int) ∧ v6 = .int .i64 (sp_sum l0 cosT (32 / 16) i) ∧ Aside0 (∃ k, wr = w.drewN k)) (fun _ v _ => 16 - (intOf v).toNat)
   case atStart => exact ⟨0, by omega, rfl, rfl, ⟨⟨0, rfl⟩⟩⟩
   case round =>
    obtain ⟨i, hi, rfl, rfl, HK⟩ := hrel
    obtain ⟨k, rfl⟩ := HK.out
    by_cases hlt : i < 16
    ·
     obtain ⟨ad, rfl, hcs⟩ := sp_ad HC.out (by omega)
     have hcell := sp_cell HC.out i hlt
     obtain ⟨x, hx⟩ : ∃ x, l0.getD i 0 = x := ⟨_, rfl⟩
     rw [hx] at hcell
     obtain ⟨s, hs⟩ : ∃ s, sp_sum l0 cosT (32 / 16) i = s := ⟨_, rfl⟩
     have HN : Aside0 (sp_sum l0 cosT (32 / 16) (i + 1) = wrap64 (s + wrap64 (x * cosT ((i : Int) * 2)))) := ⟨by rw [sp_sum, hs, hx]; rfl⟩
     have HF : Aside0 (circle_Cos.f ((i : Int) * 2) = some (cosT ((i : Int) * 2))) := ⟨sp_cos (by omega) (by omega)⟩
     clear hcs hx
     rw [hs]
     clear hs
     go_wp2_with (go_at_call 45; (with_reducible refine (circle_Cos.calls _ _ _ (HG.out.drewN _) HF.out).mono ?_); rintro e w' ⟨rfl, ⟨nd, rfl⟩⟩)
     go_roundw
     case rel => exact ⟨i + 1, by omega, by go_num, by rw [HN.out], ⟨⟨_, rfl⟩⟩⟩
     case measure => simp [intOf]; omega
    ·
     obtain rfl : i = 16 := by omega
     go_wp2
     go_ret
     exact ⟨by rw [HV.out]; rfl, ⟨⟨_, rfl⟩⟩⟩
  ·
   clear hm hh
   go_enter Tryd.func105, Tryd.ntmps105
   go_wp2
   go_loopw [6, 26] (fun v6 v wr => ∃ (i : Nat), i ≤ 32 ∧ v = .int .i64 (i : Int) ∧ v6 = .int .i64 (sp_sum l0 cosT (32 / 32) i) ∧ Aside0 (∃ k, wr = w.drewN k)) (fun _ v _ => 32 - (intOf v).toNat)
   case atStart => exact ⟨0, by omega, rfl, rfl, ⟨⟨0, rfl⟩⟩⟩
   case round =>
    obtain ⟨i, hi, rfl, rfl, HK⟩ := hrel
    obtain ⟨k, rfl⟩ := HK.out
    by_cases hlt : i < 32
    ·
     obtain ⟨ad, rfl, hcs⟩ := sp_ad HC.out (by omega)
     have hcell := sp_cell HC.out i hlt
     obtain ⟨x, hx⟩ : ∃ x, l0.getD i 0 = x := ⟨_, rfl⟩
     rw [hx] at hcell
     obtain ⟨s, hs⟩ : ∃ s, sp_sum l0 cosT (32 / 32) i = s := ⟨_, rfl⟩
     have HN : Aside0 (sp_sum l0 cosT (32 / 32) (i + 1) = wrap64 (s + wrap64 (x * cosT (i : Int)))) := ⟨by rw [sp_sum, hs, hx, show ((32 / 32 : Nat) : Int) = 1 from rfl, Int.mul_one]⟩
     have HF : Aside0 (circle_Cos.f (i : Int) = some (cosT (i : Int))) := ⟨sp_cos (by omega) (by omega)⟩
     clear hcs hx
     rw [hs]
     clear hs
     go_wp2_with (go_at_call 45; (with_reducible refine (circle_Cos.calls _ _ _ (HG.out.drewN _) HF.out).mono ?_); rintro e w' ⟨rfl, ⟨nd, rfl⟩⟩)
     go_roundw
     case rel => exact ⟨i + 1, by omega, by go_num, by rw [HN.out], ⟨⟨_, rfl⟩⟩⟩
     case measure => simp [intOf]; omega
    ·
     obtain rfl : i = 32 := by omega
     go_wp2
     go_ret
     exact ⟨by rw [HV.out]; rfl, ⟨⟨_, rfl⟩⟩⟩
 ·
  have HV : Aside0 (sp_part l0 cosT = 0) := ⟨by unfold sp_part; rw [hl, if_neg (by rw [hm]; decide)]⟩
  have hcase : h = 0 ∨ 0 < h ∧ h ≤ 32 ∧ (Go.bits .and .i64 (h : Int) ((h : Int) - 1) != 0) = true ∨ 32 < h := by
   by_cases h1 : h ≤ 32
   ·
    rcases sp_mask ⟨h, by omega⟩ with h2 | h2 | h2
    · exact .inl h2
    · rw [hm] at h2; cases h2
    ·
     by_cases h3 : h = 0
     · exact .inl h3
     · exact .inr (.inl ⟨by omega, h1, h2⟩)
   · exact .inr (.inr (by omega))
  clear hl hm
  rcases hcase with rfl | ⟨h0, h1, h2⟩ | h1
  ·
   go_enter Tryd.func105, Tryd.ntmps105
   go_wp2
   go_ret
   exact ⟨by rw [HV.out]; rfl, ⟨⟨0, rfl⟩⟩⟩
  ·
   have hd : ((h : Int) == 0) = false := by simp; omega
   go_enter Tryd.func105, Tryd.ntmps105
   go_wp2
   go_ret
   exact ⟨by rw [HV.out]; rfl, ⟨⟨0, rfl⟩⟩⟩
  ·
   have hd : ((h : Int) == 0) = false := by simp; omega
   go_enter Tryd.func105, Tryd.ntmps105
   go_wp2
   all_goals
    go_ret
    exact ⟨by rw [HV.out]; rfl, ⟨⟨0, rfl⟩⟩⟩
def spin_Real.f (l0 : List Int) : Option Int := if decide (l0.length ≤ 1000000) then some (sp_part l0 cosT) else none
theorem real_go (A0 : Option Addr) (h c0 : Nat) (l0 : List Int) (w : World) (hG : GlobA w) (hl : l0.length = h) (hr0 : Kd.C (Kd.int .i64) w A0 h l0) (hh : h ≤ 1000000) :
  Calls Tryd.prog 78 #[.slice A0 h c0] w fun e w' => e = .returned (.int .i64 (sp_part l0 cosT)) ∧ Drawn0 w w' := by
 have HG := Aside0.mk hG
 have HC := Aside0.mk hr0
 have HL := Aside0.mk hl
 clear hG hr0 hl
 go_enter Tryd.func78, Tryd.ntmps78
 go_wp2_with (go_at_call 105; (with_reducible refine (sum_cos A0 h c0 l0 _ HG.out HL.out HC.out hh).mono ?_); rintro e w' ⟨rfl, ⟨nd, rfl⟩⟩)
 go_ret
 exact ⟨rfl, ⟨⟨_, rfl⟩⟩⟩
theorem spin_Real.calls (A0 : Option Addr) (c0 : Nat) (l0 : List Int) (r : Int) (w : World) (hG : GlobA w) (hr0 : Kd.C (Kd.int .i64) w A0 l0.length l0) (hc0 : l0.length ≤ c0) (h : spin_Real.f l0 = some r) :
  Calls Tryd.prog 78 #[.slice A0 l0.length c0] w fun e w' => e = .returned (.int .i64 r) ∧ Drawn0 w w' := by
 unfold spin_Real.f at h
 split at h
 case isFalse => cases h
 rename_i hz
 obtain rfl := Option.some.inj h
 exact real_go A0 _ c0 l0 w hG rfl hr0 (of_decide_eq_true hz)
def circle_Sin.f (a0 : Int) : Option (Int) := (circle_Rest.f a0).bind fun t115 => ((circle_Cos.f (wrap64 (t115 - 16))).bind fun t116 => (some t116))
set_option maxHeartbeats 8000000 in
set_option maxRecDepth 100000 in
theorem circle_Sin.calls (a0 : Int) (r : Int) (w : World) (hG : GlobA w) (h : circle_Sin.f a0 = some r) :
  Calls Tryd.prog 106 #[.int .i64 a0] w fun e w' => e = .returned (.int .i64 r) ∧ Drawn0 w w' := by
 have HG := Aside0.mk hG
 clear hG
 have H : ((circle_Rest.f a0).bind fun t115 => ((circle_Cos.f (wrap64 (t115 - 16))).bind fun t116 => (some t116))) = some r := h
 clear h
 replace H := Option.bind_eq_some_iff.mp H
 obtain ⟨t115, A20, H⟩ := H
 replace H : ((circle_Cos.f (wrap64 (t115 - 16))).bind fun t116 => (some t116)) = some r := H
 have A2 := Aside0.mk A20
 clear A20
 replace H := Option.bind_eq_some_iff.mp H
 obtain ⟨t116, A30, H⟩ := H
 replace H : (some t116) = some r := H
 have A3 := Aside0.mk A30
 clear A30
 obtain rfl := Option.some.inj H
 go_enter Tryd.func106, Tryd.ntmps106
 go_wp2_with (first | ((with_reducible refine gate_callee (f := 72) rfl ?_); refine goesL_ (some 4) rfl rfl Tryd.func72 (by kernel_rfl) rfl #[.int .i64 a0] rfl (by (try simp only [List.map_toArray, List.map_cons, List.map_nil]); first | done | rfl | (simp only [List.length_drop, List.length_take]; rfl)) ?_; (with_reducible refine (circle_Rest.calls a0 t115 _ A2.out).mono ?_); rintro e w' ⟨rfl, ⟨nd, rfl⟩⟩; refine ⟨_, rfl, ?_⟩) | ((with_reducible refine gate_callee (f := 45) rfl ?_); refine goesL_ (some 6) rfl rfl Tryd.func45 (by kernel_rfl) rfl #[.int .i64 (wrap64 (t115 - 16))] rfl (by (try simp only [List.map_toArray, List.map_cons, List.map_nil]); first | done | rfl | (simp only [List.length_drop, List.length_take]; rfl)) ?_; (with_reducible refine (circle_Cos.calls (wrap64 (t115 - 16)) t116 _ ?side1 A3.out).mono ?_); (case side1 => first | exact HG.out | exact GlobA.drewN HG.out _); rintro e w' ⟨rfl, ⟨nd, rfl⟩⟩; refine ⟨_, rfl, ?_⟩))
 go_ret
 exact ⟨by first | rfl | (simp; done) | (simp [*]; done), by repeat (first | exact Drawn0.refl _ | apply Drawn0.step)⟩
end Go.Proofs.YtmhacdnnnebpdaaDoor.PFrontStream
