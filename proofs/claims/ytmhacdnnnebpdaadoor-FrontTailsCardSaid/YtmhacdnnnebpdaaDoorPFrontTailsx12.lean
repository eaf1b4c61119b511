-- Written by a program of this work (wip/tools) for this claim; Lean checks it.
import Derived.Test.YtmhacdnnnebpdaaDoorPFrontTailsx0
import Derived.Test.YtmhacdnnnebpdaaDoorPFrontTailsx1
import Derived.Test.YtmhacdnnnebpdaaDoorPFrontTailsx2
import Derived.Test.YtmhacdnnnebpdaaDoorPFrontTailsx4
import Derived.Test.YtmhacdnnnebpdaaDoorPFrontTailsx5
import Derived.Test.YtmhacdnnnebpdaaDoorPFrontTailsx6
import Derived.Test.YtmhacdnnnebpdaaDoorPFrontTailsx8
import Derived.Test.YtmhacdnnnebpdaaDoorPFrontTailsx9
import Derived.Test.YtmhacdnnnebpdaaDoorPFrontTailsx10
import Derived.Test.YtmhacdnnnebpdaaDoorPFrontTailsx11
namespace Go.Proofs.YtmhacdnnnebpdaaDoor.PFrontTails
open Go.RowKit Go.Proofs.YtmhacdnnnebpdaaDoorW.PrintWords Go.Proofs.YtmhacdnnnebpdaaDoorW.PrintLast Go.Proofs.YtmhacdnnnebpdaaDoorW.PrintMore
attribute [local go_sem] max2_int min2_int max_two min_two max_three min_three max_four min_four   -- for this text's walks alone
set_option linter.unusedVariables false
set_option linter.unusedSimpArgs false

/-! ### earshotlaw13_FrontTails: function 12 -/
-- PURE intros; unfold earshotlaw13_FrontTails.f; rw [if_pos]; simp only [Bool.and_eq_true, decide_eq_true_eq]; apply wf_i64; assumption

/-- A call's result is a row that reads as xs; the world is as it was, but for what is new. -/
def CRes (w0 W : World) (h : Nat) (xs : List Int) (e : Ending) (w' : World) : Prop :=
  ∃ A c, e = .returned (.slice A h c) ∧ h ≤ c ∧ Aside0 ((Kd.int .i64).C w' A h xs) ∧ Aside0 (Below w0.heap.size w0 w') ∧ Aside0 (Below W.heap.size W w')
theorem cres_of {w0 W w' : World} {h : Nat} {xs : List Int} {v : Value} {t b : Nat} {ok : Nat → Prop} (hB : Below w0.heap.size w0 W) (hR : (Kd.int .i64).R t w' b ok v xs) (hl : xs.length = h) (hb : Below W.heap.size W w') : CRes w0 W h xs (.returned v) w' := by
  subst hl
  obtain ⟨A, c, rfl, h1, h2⟩ := Kd.R_reads hR
  exact ⟨A, c, rfl, h1, ⟨h2⟩, ⟨below_step hB hb⟩, ⟨hb⟩⟩
theorem same_go (l : List Int) (hl : l.length ≤ 100000000) (d : Nat) : ∀ (k i : Nat), i ≤ l.length → l.length - i = d → d < k → earshotref04_Same.l0 k l l (i : Int) = some true := by
  induction d with
  | zero =>
    intro k i h0 hd hk
    obtain ⟨k, rfl⟩ : ∃ m, k = m + 1 := ⟨k - 1, by omega⟩
    simp only [earshotref04_Same.l0]
    rw [if_neg (by omega)]
  | succ d ih =>
    intro k i h0 hd hk
    obtain ⟨k, rfl⟩ : ∃ m, k = m + 1 := ⟨k - 1, by omega⟩
    simp only [earshotref04_Same.l0]
    have hw : wrap64 ((i : Int) + 1) = ((i + 1 : Nat) : Int) := by unfold wrap64; omega
    rw [if_pos (by omega), if_pos (by omega), if_pos (by omega), if_pos trivial, hw]
    exact ih k (i + 1) (by omega) (by omega) (by omega)
theorem same_f (l : List Int) (hl : l.length ≤ 100000000) : earshotref04_Same.f (l.length + 1) l l = some true := by
  unfold earshotref04_Same.f
  rw [if_pos rfl]
  exact same_go l hl l.length _ 0 (by omega) (by omega) (by omega)
/-- Two rows that read the same. -/
theorem same_c {w0 : World} (A1 : Option Addr) (h c1 : Nat) (A2 : Option Addr) (c2 : Nat) (l1 l2 : List Int) (W : World) (hB : Below w0.heap.size w0 W) (hl : l1.length = h) (he : l1 = l2) (hC1 : (Kd.int .i64).C W A1 h l1) (hC2 : (Kd.int .i64).C W A2 h l2) (h1 : h ≤ c1) (h2 : h ≤ c2) (hh : h ≤ 1000000) :
    Calls Tryd.prog 16 #[.slice A1 h c1, .slice A2 h c2] W fun e w' => e = .returned (.bool true) ∧ Aside0 (Below w0.heap.size w0 w') ∧ Aside0 (Below W.heap.size W w') := by
  subst he
  subst hl
  exact (earshotref04_Same.calls _ A1 c1 l1 A2 c2 l1 true W hC1 h1 hC2 h2 (same_f l1 (by omega))).mono fun e w' ⟨a, ⟨n, b⟩⟩ => by
    subst b
    exact ⟨a, ⟨pw_below_drewN hB n⟩, ⟨pw_below_drewN (Below.refl _ _) n⟩⟩
theorem zeros_c (X : World) (g n : Nat) (hg : g = X.heap.size) (hn : n ≤ 1000000) : (Kd.int .i64).C (X.alloc (.cells (madeCells #[.int .i64 0] n) 3)) (some ⟨g, 0, none⟩) n (List.replicate n 0) := by
  subst hg
  have h := own_made X X.heap.size 3 .i64 n (Nat.le_refl _) (by omega)
  have hR := Kd.R_of_own (enc := Value.int .i64) (h1 := fun _ => rfl) (ok := fun _ => True) (xs := List.replicate n 0) (by rw [List.length_replicate]; exact h) (fun _ _ => trivial)
  obtain ⟨A, c, he, _, h2⟩ := Kd.R_reads hR
  rw [List.length_replicate] at he h2
  injection he with e1 e2 e3
  rw [e1]
  exact h2
/-- A callee that draws only, in a region that is walked once, in a world that has drawn before. -/
theorem quiet_add {P : Program} {f : FuncId} {args : Array Value} {W : World} {K x : Nat} {v : Value} (h : Calls P f args (W.drewN (K + x)) fun e w' => e = .returned v ∧ Drawn0 (W.drewN (K + x)) w') :
    Calls P f args (W.drewN (K + x)) fun e w'' => e = .returned v ∧ ∃ n, w'' = W.drewN (K + n) :=
  h.mono fun _ _ ⟨he, ⟨m, hm⟩⟩ => ⟨he, x + m, by rw [hm, World.drewN_drewN, Nat.add_assoc]⟩
/-- .. likewise, in a world that is named by one count. -/
theorem quiet_d {P : Program} {f : FuncId} {args : Array Value} {W : World} {x : Nat} {v : Value} (h : Calls P f args (W.drewN x) fun e w' => e = .returned v ∧ Drawn0 (W.drewN x) w') :
    Calls P f args (W.drewN x) fun e w'' => e = .returned v ∧ ∃ n, w'' = W.drewN n :=
  h.mono fun _ _ ⟨he, ⟨m, hm⟩⟩ => ⟨he, x + m, by rw [hm, World.drewN_drewN]⟩

/-! ### Sound cut in parts tells the frames of the whole -/
def cutA (s h b c p : Int) (r : List Int) : List (List Int) × List Int := cutN s h b c p (r.length + 1) r
theorem cutA_yes {s h b c p : Int} (hs : 1 ≤ s.toNat) (hh : 1 ≤ h.toNat) (r : List Int) (hr : s.toNat ≤ r.length) :
    cutA s h b c p r = (frameF s h b c p (r.take s.toNat) :: (cutA s h b c p (r.drop h.toNat)).1, (cutA s h b c p (r.drop h.toNat)).2) := by
  unfold cutA
  rw [cutN_yes _ _ _ _ _ _ _ hr, cutN_more s h b c p hs hh ((r.drop h.toNat).length + 1) r.length (r.drop h.toNat) (by omega) (by rw [List.length_drop]; omega)]
theorem cutA_no {s h b c p : Int} (r : List Int) (hr : r.length < s.toNat) : cutA s h b c p r = ([], r) := cutN_no _ _ _ _ _ _ _ hr
theorem cutA_app {s h b c p : Int} (hs : 1 ≤ s.toNat) (hh : 1 ≤ h.toNat) (hhs : h.toNat ≤ s.toNat) (ys : List Int) : ∀ (n : Nat) (r : List Int), r.length ≤ n →
    cutA s h b c p (r ++ ys) = ((cutA s h b c p r).1 ++ (cutA s h b c p ((cutA s h b c p r).2 ++ ys)).1, (cutA s h b c p ((cutA s h b c p r).2 ++ ys)).2)
  | n, r, hn => by
    by_cases hr : r.length < s.toNat
    · rw [cutA_no r hr]; rfl
    · have hr2 : s.toNat ≤ r.length := by omega
      match n, hn with
      | 0, hn => omega
      | n + 1, hn =>
        have ih := cutA_app (s := s) (h := h) (b := b) (c := c) (p := p) hs hh hhs ys n (r.drop h.toNat) (by rw [List.length_drop]; omega)
        rw [cutA_yes hs hh r hr2, cutA_yes hs hh (r ++ ys) (by rw [List.length_append]; omega), List.take_append_of_le_length hr2, List.drop_append_of_le_length (by omega), ih]
        rfl
theorem cutA_rest {s h b c p : Int} (hs : 1 ≤ s.toNat) (hh : 1 ≤ h.toNat) : ∀ (n : Nat) (r : List Int), r.length ≤ n → (cutA s h b c p r).2.length < s.toNat
  | n, r, hn => by
    by_cases hr : r.length < s.toNat
    · rw [cutA_no r hr]; exact hr
    · match n, hn with
      | 0, hn => omega
      | n + 1, hn =>
        rw [cutA_yes hs hh r (by omega)]
        exact cutA_rest hs hh n (r.drop h.toNat) (by rw [List.length_drop]; omega)
def framesI (s h n : Int) : Int := if n < s then 0 else (n - s) / h + 1
def neededI (s h n : Int) : Int := n - framesI s h n * h
theorem framesI_step {s h n : Int} (hh : 1 ≤ h) (hhs : h ≤ s) (hn : s ≤ n) : framesI s h n = framesI s h (n - h) + 1 := by
  unfold framesI
  rw [if_neg (by omega)]
  by_cases c : n - h < s
  · rw [if_pos c, Int.ediv_eq_zero_of_lt (by omega) (by omega)]
  · rw [if_neg c]
    have e : n - s = (n - h - s) + 1 * h := by omega
    rw [e, Int.add_mul_ediv_right _ _ (by omega)]
theorem framesI_nn {s h n : Int} (hh : 1 ≤ h) : 0 ≤ framesI s h n := by
  unfold framesI
  split
  · omega
  · have := Int.ediv_nonneg (a := n - s) (b := h) (by omega) (by omega)
    omega
theorem framesI_mono1 {s h n : Int} (hh : 1 ≤ h) (hs : 1 ≤ s) : framesI s h (n + 1) ≤ framesI s h n + 1 ∧ framesI s h n ≤ framesI s h (n + 1) := by
  unfold framesI
  by_cases c : n + 1 < s
  · rw [if_pos c, if_pos (by omega)]; omega
  · rw [if_neg c]
    by_cases d : n < s
    · rw [if_pos d, show n + 1 - s = 0 by omega, Int.zero_ediv]; omega
    · rw [if_neg d]
      have h1 : (n + 1 - s) / h ≤ (n - s + 1 * h) / h := Int.ediv_le_ediv (by omega) (by omega)
      rw [Int.add_mul_ediv_right _ _ (by omega)] at h1
      have h2 : (n - s) / h ≤ (n + 1 - s) / h := Int.ediv_le_ediv (by omega) (by omega)
      omega
theorem framesI_mul {s h n : Int} (hs : 0 ≤ s) (hh : 1 ≤ h) (hhs : h ≤ s) (h0 : 0 ≤ n) : 0 ≤ framesI s h n * h ∧ framesI s h n * h ≤ n := by
  unfold framesI
  split
  · omega
  · rename_i hn
    have a : 0 ≤ (n - s) / h := Int.ediv_nonneg (by omega) (by omega)
    have b : (n - s) / h * h ≤ n - s := Int.ediv_mul_le _ (by omega)
    have e : ((n - s) / h + 1) * h = (n - s) / h * h + h := by rw [Int.add_mul, Int.one_mul]
    have m : 0 ≤ (n - s) / h * h := Int.mul_nonneg a (by omega)
    omega
/-- How many frames, which, and what is left. -/
theorem cutA_what {s h b c p : Int} (hh : 1 ≤ h) (hhs : h ≤ s) : ∀ (n : Nat) (r : List Int), r.length ≤ n →
    ((cutA s h b c p r).1.length : Int) = framesI s h (r.length : Int) ∧ (cutA s h b c p r).2 = r.drop ((cutA s h b c p r).1.length * h.toNat) ∧
      ∀ i, i < (cutA s h b c p r).1.length → (cutA s h b c p r).1.getD i [] = frameF s h b c p ((r.drop (i * h.toNat)).take s.toNat)
  | n, r, hn => by
    by_cases hr : r.length < s.toNat
    · rw [cutA_no r hr]
      refine ⟨?_, by simp, fun i hi => by simp at hi⟩
      unfold framesI
      rw [if_pos (by omega)]; rfl
    · match n, hn with
      | 0, hn => omega
      | n + 1, hn =>
        obtain ⟨i1, i2, i3⟩ := cutA_what (s := s) (h := h) (b := b) (c := c) (p := p) hh hhs n (r.drop h.toNat) (by rw [List.length_drop]; omega)
        rw [cutA_yes (by omega) (by omega) r (by omega)]
        generalize cutA s h b c p (r.drop h.toNat) = q at i1 i2 i3
        have hl : ((r.drop h.toNat).length : Int) = (r.length : Int) - h := by rw [List.length_drop]; omega
        rw [hl] at i1
        refine ⟨?_, ?_, ?_⟩
        · rw [framesI_step hh hhs (show s ≤ (r.length : Int) by omega), ← i1, List.length_cons]; omega
        · show q.2 = _
          rw [i2, List.drop_drop, List.length_cons, Nat.add_mul, Nat.one_mul, Nat.add_comm]
        · intro i hi
          cases i with
          | zero => rw [Nat.zero_mul, List.drop_zero]; rfl
          | succ i =>
            rw [List.length_cons] at hi
            have := i3 i (by omega)
            rw [List.drop_drop] at this
            rw [List.getD_cons_succ, this, Nat.add_mul, Nat.one_mul, Nat.add_comm]
theorem flatL_app (p : Int) : ∀ (last : Int) (xs ys : List Int), flatL p last (xs ++ ys) = flatL p last xs ++ flatL p (lastL last xs) ys
  | _, [], _ => rfl
  | last, x :: xs, ys => by
    show preS p last x :: flatL p x (xs ++ ys) = _
    rw [flatL_app p x xs ys]; rfl
theorem lastL_app : ∀ (last : Int) (xs ys : List Int), lastL last (xs ++ ys) = lastL (lastL last xs) ys
  | _, [], _ => rfl
  | _, x :: xs, ys => lastL_app x xs ys
/-- The frames of sound from the start, and the rest. -/
def frsL (s h b c p : Int) (l : List Int) : List (List Int) := (cutA s h b c p (flatL p 0 l)).1
def rssL (s h b c p : Int) (l : List Int) : List Int := (cutA s h b c p (flatL p 0 l)).2
theorem cut_step {s h b c p : Int} (hs : 1 ≤ s.toNat) (hh : 1 ≤ h.toNat) (hhs : h.toNat ≤ s.toNat) (L xs : List Int) :
    frsL s h b c p (L ++ xs) = frsL s h b c p L ++ (cutA s h b c p (rssL s h b c p L ++ flatL p (lastL 0 L) xs)).1 ∧ rssL s h b c p (L ++ xs) = (cutA s h b c p (rssL s h b c p L ++ flatL p (lastL 0 L) xs)).2 := by
  unfold frsL rssL
  rw [flatL_app, cutA_app hs hh hhs _ _ _ (Nat.le_refl _)]
  exact ⟨rfl, rfl⟩
theorem frsL_len {s h b c p : Int} (hh : 1 ≤ h) (hhs : h ≤ s) (l : List Int) : ((frsL s h b c p l).length : Int) = framesI s h (l.length : Int) := by
  have := (cutA_what (s := s) (h := h) (b := b) (c := c) (p := p) hh hhs _ (flatL p 0 l) (Nat.le_refl _)).1
  rw [flatL_length] at this
  exact this
theorem rssL_eq {s h b c p : Int} (hh : 1 ≤ h) (hhs : h ≤ s) (l : List Int) : rssL s h b c p l = (flatL p 0 l).drop ((framesI s h (l.length : Int)).toNat * h.toNat) := by
  have h1 := (cutA_what (s := s) (h := h) (b := b) (c := c) (p := p) hh hhs _ (flatL p 0 l) (Nat.le_refl _)).2.1
  have h2 := frsL_len (s := s) (h := h) (b := b) (c := c) (p := p) hh hhs l
  unfold rssL
  rw [h1, show (cutA s h b c p (flatL p 0 l)).1.length = (framesI s h (l.length : Int)).toNat by unfold frsL at h2; omega]
theorem frsL_at {s h b c p : Int} (hh : 1 ≤ h) (hhs : h ≤ s) (l : List Int) (i : Nat) (hi : i < (frsL s h b c p l).length) : (frsL s h b c p l).getD i [] = frameF s h b c p (((flatL p 0 l).drop (i * h.toNat)).take s.toNat) :=
  (cutA_what (s := s) (h := h) (b := b) (c := c) (p := p) hh hhs _ (flatL p 0 l) (Nat.le_refl _)).2.2 i hi
theorem rssL_len {s h b c p : Int} (hs : 1 ≤ s.toNat) (hh : 1 ≤ h.toNat) (l : List Int) : (rssL s h b c p l).length < s.toNat := cutA_rest hs hh _ _ (Nat.le_refl _)
theorem one_more {s h b c p : Int} (hh : 1 ≤ h) (hhs : h ≤ s) (L : List Int) (x : Int) (T : List (List Int)) (hT : frsL s h b c p (L ++ [x]) = frsL s h b c p L ++ T) : T.length ≤ 1 := by
  have h1 := frsL_len (s := s) (h := h) (b := b) (c := c) (p := p) hh hhs (L ++ [x])
  have h2 := frsL_len (s := s) (h := h) (b := b) (c := c) (p := p) hh hhs L
  have h3 := framesI_mono1 (s := s) (h := h) (n := (L.length : Int)) hh (by omega)
  rw [hT, List.length_append, List.length_append] at h1
  have e : (((L.length + [x].length : Nat)) : Int) = (L.length : Int) + 1 := by simp
  rw [e] at h1
  omega


theorem framesI_in {s h n : Int} (hs : 0 ≤ s) (hh : 1 ≤ h) (h1 : n ≤ 4611686018427387904) : 0 ≤ framesI s h n ∧ framesI s h n ≤ 4611686018427387905 := by
  unfold framesI
  split
  · omega
  · rename_i hn
    have a : 0 ≤ (n - s) / h := Int.ediv_nonneg (by omega) (by omega)
    have b : (n - s) / h ≤ n - s := Int.ediv_le_self _ (by omega)
    omega
theorem put_Rj {wc : World} {g j b0 b1 : Nat} {V X : Value} {l : List Int} (h : (Kd.int .i64).R 3 wc b1 (fun _ => True) V l) (hb : b0 ≤ b1) (hg : g < b1) : (Kd.int .i64).R 3 (wc.setCell ⟨g, j, none⟩ X) b0 (fun _ => True) V l := by
  have h1 : (Kd.int .i64).R 3 wc b1 (fun q => b1 ≤ q) V l := Kd.R_mono (Kd.R_bound h) (fun q hq => hq.2.1)
  exact Kd.R_lower (Kd.R_mono (Kd.R_far h1 (p := ⟨g, j, none⟩) (fun q hq => by show q ≠ g; omega) X) (fun _ _ => trivial)) hb
set_option maxHeartbeats 16000000 in
set_option maxRecDepth 100000 in
theorem reset_go (g : Nat) (s h b c p cnt last : Int) (v : Value) (w : World) (hb : w.heap[g]? = some (.cells (strC s h b c p cnt last v) 86 (0, 0))) :
    Calls Tryd.prog 35 #[.pointer (some ⟨g, 0, none⟩)] w fun e w' => e = .returned (.tuple #[]) ∧ w'.heap[g]? = some (.cells (strC s h b c p 0 0 (.slice none 0 0)) 86 (0, 0)) ∧ Keeps w w' g none := by
  have hu49 := Tryd.underlying49
  have hu86 := Tryd.underlying86
  have hu84 := Tryd.underlying84
  have hu39 := Tryd.underlying39
  have hgw : g < w.heap.size := blk_lt hb
  have BK : Aside0 (w.heap[g]? = some (.cells #[.int .i64 s, .int .i64 h, .int .i64 b, .int .i64 c, .int .i64 p, .int .i64 cnt, .int .i64 last, v] 86 (0, 0))) := ⟨hb⟩
  have q5 := blk_cell BK.out 5
  have q6 := blk_cell BK.out 6
  have q7 := blk_cell BK.out 7
  have f5 := blk_frozen BK.out 5
  have f6 := blk_frozen BK.out 6
  have f7 := blk_frozen BK.out 7
  clear hb
  go_enter Tryd.func35, Tryd.ntmps35
  go_wp2
  go_end0
  refine ⟨rfl, ?_, ?_⟩
  · exact (blk_set (blk_set (blk_set BK.out 5 _) 6 _) 7 _).trans rfl
  · exact (((Keeps.refl w g none).set 5 _).set 6 _).set 7 _
set_option maxHeartbeats 16000000 in
set_option maxRecDepth 100000 in
theorem tail_go (g b0 : Nat) (s h b c p cnt last : Int) (v : Value) (rest : List Int) (w : World) (hS : StrAt w g b0 s h b c p cnt last v rest) (hr : rest.length ≤ 1000000) :
    Calls Tryd.prog 36 #[.pointer (some ⟨g, 0, none⟩)] w fun e w' => ∃ A1 c1, e = .returned (.agg #[.int .i64 cnt, .int .i64 last, .slice A1 rest.length c1]) ∧ Aside0 ((Kd.int .i64).R 3 w' w.heap.size (fun _ => True) (.slice A1 rest.length c1) rest) ∧ Aside0 (Below w.heap.size w w') := by
  have hu49 := Tryd.underlying49
  have hu86 := Tryd.underlying86
  have hu84 := Tryd.underlying84
  have hu39 := Tryd.underlying39
  have hu60 := Tryd.underlying60
  obtain ⟨Av, cv, hv, _, _⟩ := Kd.R_reads hS.2.2
  subst hv
  have hgw : g < w.heap.size := blk_lt hS.1
  have BK : Aside0 (w.heap[g]? = some (.cells #[.int .i64 s, .int .i64 h, .int .i64 b, .int .i64 c, .int .i64 p, .int .i64 cnt, .int .i64 last, .slice Av rest.length cv] 86 (0, 0))) := ⟨hS.1⟩
  have HC := Aside0.mk (R_C hS.2.2)
  obtain ⟨W0, hW0⟩ : ∃ W, (w.alloc (.cells #[.int .i64 0, .int .i64 0, .slice none 0 0] 60)).drew = W := ⟨_, rfl⟩
  have hb0 : Below w.heap.size w W0 := by rw [← hW0]; exact below_drew (below_alloc (Below.refl _ _) _)
  have HCL : Aside0 (Calls Tryd.prog 66 #[.slice Av rest.length cv] ((w.alloc (.cells #[.int .i64 0, .int .i64 0, .slice none 0 0] 60)).drew) fun e w' => ∃ A1 c1, e = .returned (.slice A1 rest.length c1) ∧ Aside0 ((Kd.int .i64).R 3 w' w.heap.size (fun q => w.heap.size < q) (.slice A1 rest.length c1) rest) ∧ Aside0 (Below w.heap.size w w') ∧ Aside0 (w'.heap[w.heap.size]? = some (.cells #[.int .i64 0, .int .i64 0, .slice none 0 0] 60 (0, 0)))) := ⟨by
    have hx : W0.heap[w.heap.size]? = some (.cells #[.int .i64 0, .int .i64 0, .slice none 0 0] 60 (0, 0)) := by rw [← hW0]; exact heap_alloc_new w _
    have hlt : w.heap.size < W0.heap.size := blk_lt hx
    rw [hW0]
    refine (clone_go _ _ _ _ W0 rfl (Kd.C_below HC.out hb0) hr).mono ?_
    rintro e_ w' ⟨v, rfl, r, q⟩
    obtain ⟨A1, c1, hv, _, _⟩ := Kd.R_reads r
    subst hv
    exact ⟨A1, c1, rfl, ⟨Kd.R_lower (Kd.R_mono (Kd.R_bound r) (fun k hk => Nat.lt_of_lt_of_le hlt hk.2.1)) (Nat.le_of_lt hlt)⟩, ⟨below_then hb0 (Nat.le_of_lt hlt) q⟩, ⟨blk_below hx q⟩⟩⟩
  have q5 := blk_cell BK.out 5
  have q6 := blk_cell BK.out 6
  have q7 := blk_cell BK.out 7
  clear hS hr hW0 hb0
  go_enter Tryd.func36, Tryd.ntmps36
  go_wp2
  go_region_law (first
    | (go_simp; go_at_call 66; (with_reducible refine HCL.out.mono ?_); rintro e_ wc ⟨A1, c1, rfl, RC, HBc, HX⟩; have BKc := Aside0.mk (blk_below BK.out HBc.out); have r5 := blk_cell BKc.out 5; have r6 := blk_cell BKc.out 6; have r7 := blk_cell BKc.out 7; have u0 := blk_cell HX.out 0; have u1 := blk_cell HX.out 1; have u2 := blk_cell HX.out 2; have g0 := blk_frozen HX.out 0; have g1 := blk_frozen HX.out 1; have g2 := blk_frozen HX.out 2))
  all_goals
    go_wp2
    refine bodyPost_ret (results_cell_row rfl _ _ w.heap.size 60 #[.int .i64 cnt, .int .i64 last, .slice A1 rest.length c1] (0, 0) _ rfl ((blk_set (blk_set (blk_set HX.out 0 _) 1 _) 2 _).trans rfl) hu60 rfl (by kernel_rfl)) rfl ?_
    refine ⟨A1, c1, rfl, ⟨?_⟩, ⟨?_⟩⟩
    · exact Kd.R_mono (Kd.R_far (Kd.R_far (Kd.R_far RC.out (p := ⟨w.heap.size, 0, none⟩) (fun q hq => by show q ≠ w.heap.size; omega) _) (p := ⟨w.heap.size, 1, none⟩) (fun q hq => by show q ≠ w.heap.size; omega) _) (p := ⟨w.heap.size, 2, none⟩) (fun q hq => by show q ≠ w.heap.size; omega) _) (fun _ _ => trivial)
    · exact below_set (below_set (below_set HBc.out (Nat.le_refl _)) (Nat.le_refl _)) (Nat.le_refl _)
set_option maxHeartbeats 16000000 in
set_option maxRecDepth 100000 in
theorem frames_go (g : Nat) (s h b c p cnt last n : Int) (v : Value) (w : World) (hb : w.heap[g]? = some (.cells (strC s h b c p cnt last v) 86 (0, 0))) (hs : 0 ≤ s ∧ s ≤ 1000) (hh : 1 ≤ h ∧ h ≤ 1000) (h0 : 0 ≤ n) (h1 : n ≤ 4611686018427387904) :
    Calls Tryd.prog 96 #[.pointer (some ⟨g, 0, none⟩), .int .i64 n] w fun e w' => e = .returned (.int .i64 (framesI s h n)) ∧ Aside0 (Below w.heap.size w w') := by
  have hu98 := Tryd.underlying98
  have hu86 := Tryd.underlying86
  have hu84 := Tryd.underlying84
  have hu39 := Tryd.underlying39
  have hgw : g < w.heap.size := blk_lt hb
  have BK : Aside0 (w.heap[g]? = some (.cells #[.int .i64 s, .int .i64 h, .int .i64 b, .int .i64 c, .int .i64 p, .int .i64 cnt, .int .i64 last, v] 86 (0, 0))) := ⟨hb⟩
  have q0 := blk_cell BK.out 0
  have q1 := blk_cell BK.out 1
  clear hb
  by_cases hlt : n < s
  · have hF : Aside0 (framesI s h n = 0) := ⟨by unfold framesI; rw [if_pos hlt]⟩
    have d0 : decide (n < s) = true := decide_eq_true hlt
    go_enter Tryd.func96, Tryd.ntmps96
    go_wp2
    go_ret
    exact ⟨by rw [hF.out]; rfl, ⟨by repeat (first | exact Below.refl _ _ | apply pw_below_drewN)⟩⟩
  · have hF : Aside0 (framesI s h n = (n - s) / h + 1) := ⟨by unfold framesI; rw [if_neg hlt]⟩
    have d0 : decide (n < s) = false := decide_eq_false hlt
    obtain ⟨q, hq⟩ : ∃ q, (n - s) / h = q := ⟨_, rfl⟩
    have e1 : IntKind.i64.wrap (n - s) = n - s := by rw [IntKind.wrap_i64]; omega
    have e2 : Int.tdiv (n - s) h = q := by rw [Int.tdiv_eq_ediv_of_nonneg (by omega), hq]
    have a0 : 0 ≤ q := by rw [← hq]; exact Int.ediv_nonneg (by omega) (by omega)
    have a1 : q ≤ n - s := by rw [← hq]; exact Int.ediv_le_self _ (by omega)
    have e3 : IntKind.i64.wrap q = q := by rw [IntKind.wrap_i64]; omega
    have e4 : IntKind.i64.wrap (q + 1) = q + 1 := by rw [IntKind.wrap_i64]; omega
    have z0 : (h == 0) = false := by rw [beq_eq_false_iff_ne]; omega
    have z1 : ¬ h = 0 := by omega
    have HQ := Aside0.mk hq
    clear hq hlt
    go_enter Tryd.func96, Tryd.ntmps96
    go_wp2
    go_quiet (fail)
    go_wp2
    go_ret
    exact ⟨by rw [hF.out, HQ.out]; rfl, ⟨by repeat (first | exact Below.refl _ _ | apply pw_below_drewN)⟩⟩
set_option maxHeartbeats 16000000 in
set_option maxRecDepth 100000 in
theorem needed_go (g : Nat) (s h b c p cnt last n : Int) (v : Value) (w : World) (hb : w.heap[g]? = some (.cells (strC s h b c p cnt last v) 86 (0, 0))) (hs : 0 ≤ s ∧ s ≤ 1000) (hh : 1 ≤ h ∧ h ≤ 1000) (hhs : h ≤ s) (h0 : 0 ≤ n) (h1 : n ≤ 4611686018427387904) :
    Calls Tryd.prog 67 #[.pointer (some ⟨g, 0, none⟩), .int .i64 n] w fun e w' => e = .returned (.int .i64 (neededI s h n)) ∧ Aside0 (Below w.heap.size w w') := by
  have hu98 := Tryd.underlying98
  have hu86 := Tryd.underlying86
  have hu84 := Tryd.underlying84
  have hu39 := Tryd.underlying39
  have hgw : g < w.heap.size := blk_lt hb
  have BK : Aside0 (w.heap[g]? = some (.cells #[.int .i64 s, .int .i64 h, .int .i64 b, .int .i64 c, .int .i64 p, .int .i64 cnt, .int .i64 last, v] 86 (0, 0))) := ⟨hb⟩
  have hfm := framesI_mul (s := s) (h := h) (n := n) hs.1 hh.1 hhs h0
  obtain ⟨q, hq⟩ : ∃ q, framesI s h n = q := ⟨_, rfl⟩
  obtain ⟨u, hu⟩ : ∃ u, q * h = u := ⟨_, rfl⟩
  rw [hq, hu] at hfm
  have HFR : Aside0 (∀ W : World, W.heap[g]? = some (.cells #[.int .i64 s, .int .i64 h, .int .i64 b, .int .i64 c, .int .i64 p, .int .i64 cnt, .int .i64 last, v] 86 (0, 0)) → Calls Tryd.prog 96 #[.pointer (some ⟨g, 0, none⟩), .int .i64 n] W fun e w' => e = .returned (.int .i64 q) ∧ Aside0 (Below W.heap.size W w')) := ⟨fun W hbk => by
    rw [← hq]
    exact frames_go g s h b c p cnt last n v W hbk hs hh h0 h1⟩
  have e1 : IntKind.i64.wrap (q * h) = u := by rw [hu, IntKind.wrap_i64]; omega
  have e2 : IntKind.i64.wrap (n - u) = n - u := by rw [IntKind.wrap_i64]; omega
  have HN : Aside0 (neededI s h n = n - u) := ⟨by unfold neededI; rw [hq, hu]⟩
  have q1 := blk_cell BK.out 1
  clear hb hq hu hfm
  have ST0 : True := trivial
  go_enter Tryd.func67, Tryd.ntmps67
  go_wp2
  go_region_with (first
    | (go_at_call 96; clear ST0; refine (HFR.out _ ?hc).mono ?_; (case hc => first | exact BK.out | exact blk_drewN BK.out _); rintro e_ w1 ⟨rfl, B1⟩; have hb := below_then (show Below w.heap.size w _ by repeat (first | exact Below.refl _ _ | apply below_alloc | apply pw_below_drewN | apply below_drew1)) (by simp) B1.out; have BK1 := Aside0.mk (blk_below BK.out hb); have HB1 := Aside0.mk hb; clear hb B1; have r1 := blk_cell BK1.out 1))
  all_goals
    go_wp2
    go_ret
    exact ⟨by rw [HN.out]; rfl, ⟨by repeat (first | exact HB1.out | apply pw_below_drewN)⟩⟩

theorem drawn_trans {w w1 w2 : World} (h : Drawn0 w w1) (k : Drawn0 w1 w2) : Drawn0 w w2 := by
  obtain ⟨m, rfl⟩ := h
  obtain ⟨n, rfl⟩ := k
  exact ⟨⟨m + n, by rw [World.drewN_drewN]⟩⟩
theorem one_LVQ (x : Int) (w : World) : Calls Tryd.prog 74 #[.int .i64 x] w fun e w' => e = .returned (.bool (badLV x)) ∧ Drawn0 w w' := by
  unfold badLV
  cases h : decide (x < -65536)
  all_goals
    go_enter Tryd.func74, Tryd.ntmps74
    go_wp2
    go_ret
    exact ⟨rfl, by repeat (first | exact Drawn0.refl _ | apply Drawn0.step)⟩
set_option maxHeartbeats 16000000 in
theorem index_LVQ (A : Option Addr) (n c : Nat) (l : List Int) (w : World) (hl : l.length = n) (hC : (Kd.int .i64).C w A n l) :
    Calls Tryd.prog 95 #[.slice A n c, .func (.func 74) #[] #[]] w fun e w' => ∃ r : Int, e = .returned (.int .i64 r) ∧ decide (0 ≤ r) = l.any badLV ∧ Drawn0 w w' := by
  have HC := Aside0.mk hC
  have hmax : n ≤ 9223372036854775807 := Kd.C_max hC
  have HB0 : Aside0 (Drawn0 w w) := ⟨Drawn0.refl _⟩
  have HL := Aside0.mk hl
  clear hC hl
  go_enter Tryd.func95, Tryd.ntmps95
  go_wp2
  go_loopw [5, 8] (fun v5 v wr => ∃ (i : Nat), i ≤ n ∧ v = .int .i64 (i : Int) ∧ Aside0 (∀ j, j < i → badLV (l.getD j 0) = false) ∧ Aside0 (Drawn0 w wr)) (fun _ v _ => n - (intOf v).toNat)
  case atStart => exact ⟨0, by omega, rfl, ⟨fun j hj => by omega⟩, HB0⟩
  case round =>
    clear HB0
    obtain ⟨i, hi, rfl, HJ, HB⟩ := hrel
    by_cases hlt : i < n
    · have hC1 := Kd.C_below HC.out HB.out.below
      obtain ⟨ad, rfl, hcs⟩ := sp_ad hC1 (by omega)
      have k0 := hcs i hlt
      obtain ⟨x, hx⟩ : ∃ x, l.getD i 0 = x := ⟨_, rfl⟩
      rw [hx] at k0
      have HX := Aside0.mk hx
      have HM : Aside0 (x ∈ l) := ⟨by rw [← hx, List.getD_eq_getElem?_getD, List.getElem?_eq_getElem (by rw [HL.out]; exact hlt)]; exact List.getElem_mem _⟩
      have j0 : (0 : Int) ≤ (i : Int) := by omega
      have j1 : (i : Int) < (n : Int) := by omega
      clear hcs hC1 hx
      cases hb : badLV x
      · have HV := Aside0.mk hb
        clear hb
        go_wp2_with (go_at_call 74; (with_reducible refine (one_LVQ x _).mono ?_); rintro e_ w1 ⟨rfl, B1⟩; rw [HV.out]; have HB1 := Aside0.mk (drawn_trans HB.out B1); clear B1)
        go_roundw
        case rel =>
          refine ⟨i + 1, by omega, by go_num, ⟨fun j hj => ?_⟩, HB1⟩
          by_cases e : j = i
          · subst e; rw [HX.out]; exact HV.out
          · exact HJ.out j (by omega)
        case measure => simp [intOf]; omega
      · have HV := Aside0.mk hb
        clear hb
        go_wp2_with (go_at_call 74; (with_reducible refine (one_LVQ x _).mono ?_); rintro e_ w1 ⟨rfl, B1⟩; rw [HV.out]; have HB1 := Aside0.mk (drawn_trans HB.out B1); clear B1)
        go_ret
        refine ⟨_, rfl, ?_, HB1.out⟩
        rw [List.any_eq_true.2 ⟨x, HM.out, HV.out⟩, decide_eq_true j0]
    · obtain rfl : n = i := by omega
      go_wp2
      go_ret
      refine ⟨_, rfl, ?_, HB.out⟩
      have : l.any badLV = false := by
        rw [List.any_eq_false]
        intro x hx
        obtain ⟨k, hk, rfl⟩ := List.getElem_of_mem hx
        have := HJ.out k (by rw [← HL.out]; exact hk)
        rw [List.getD_eq_getElem?_getD, List.getElem?_eq_getElem hk] at this
        simp at this ⊢
        exact this
      rw [this]
      exact decide_eq_false (by decide)
theorem contains_LVQ (A : Option Addr) (n c : Nat) (l : List Int) (w : World) (hl : l.length = n) (hC : (Kd.int .i64).C w A n l) (b : Bool) (hb : l.any badLV = b) :
    Calls Tryd.prog 63 #[.slice A n c, .func (.func 74) #[] #[]] w fun e w' => e = .returned (.bool b) ∧ Drawn0 w w' := by
  have HI := Aside0.mk (index_LVQ A n c l w hl hC)
  rw [hb] at HI
  clear hl hC hb
  go_enter Tryd.func63, Tryd.ntmps63
  go_wp2_with (go_at_call 95; (with_reducible refine HI.out.mono ?_); rintro e_ w1 ⟨r, rfl, hr, B1⟩; have HB1 := Aside0.mk B1; clear B1)
  go_ret
  exact ⟨rfl, HB1.out⟩
theorem level_q (A : Option Addr) (n c : Nat) (l : List Int) (b : Bool) (w : World) (hl : l.length = n) (hC : (Kd.int .i64).C w A n l) (hb : lvl l = b) :
    Calls Tryd.prog 48 #[.slice A n c] w fun e w' => e = .returned (.bool b) ∧ Drawn0 w w' := by
  have HI := Aside0.mk (contains_LVQ A n c l w hl hC (!b) (by rw [← hb, lvl, Bool.not_not]))
  clear hl hC hb
  go_enter Tryd.func48, Tryd.ntmps48
  go_wp2_with (go_at_call 63; (with_reducible refine HI.out.mono ?_); rintro e_ w1 ⟨rfl, B1⟩; have HB1 := Aside0.mk B1; clear B1)
  go_ret
  exact ⟨by first | rfl | simp, HB1.out⟩
set_option maxHeartbeats 16000000 in
set_option maxRecDepth 100000 in
theorem frames_q (g : Nat) (s h b c p cnt last n : Int) (v : Value) (w : World) (hb : w.heap[g]? = some (.cells (strC s h b c p cnt last v) 86 (0, 0))) (hs : 0 ≤ s ∧ s ≤ 1000) (hh : 1 ≤ h ∧ h ≤ 1000) (h0 : 0 ≤ n) (h1 : n ≤ 4611686018427387904) :
    Calls Tryd.prog 96 #[.pointer (some ⟨g, 0, none⟩), .int .i64 n] w fun e w' => e = .returned (.int .i64 (framesI s h n)) ∧ Drawn0 w w' := by
  have hu98 := Tryd.underlying98
  have hu86 := Tryd.underlying86
  have hu84 := Tryd.underlying84
  have hu39 := Tryd.underlying39
  have hgw : g < w.heap.size := blk_lt hb
  have BK : Aside0 (w.heap[g]? = some (.cells #[.int .i64 s, .int .i64 h, .int .i64 b, .int .i64 c, .int .i64 p, .int .i64 cnt, .int .i64 last, v] 86 (0, 0))) := ⟨hb⟩
  have q0 := blk_cell BK.out 0
  have q1 := blk_cell BK.out 1
  clear hb
  by_cases hlt : n < s
  · have hF : Aside0 (framesI s h n = 0) := ⟨by unfold framesI; rw [if_pos hlt]⟩
    have d0 : decide (n < s) = true := decide_eq_true hlt
    go_enter Tryd.func96, Tryd.ntmps96
    go_wp2
    go_ret
    exact ⟨by rw [hF.out]; rfl, by repeat (first | exact Drawn0.refl _ | apply Drawn0.step)⟩
  · have hF : Aside0 (framesI s h n = (n - s) / h + 1) := ⟨by unfold framesI; rw [if_neg hlt]⟩
    have d0 : decide (n < s) = false := decide_eq_false hlt
    obtain ⟨q, hq⟩ : ∃ q, (n - s) / h = q := ⟨_, rfl⟩
    have e1 : IntKind.i64.wrap (n - s) = n - s := by rw [IntKind.wrap_i64]; omega
    have e2 : Int.tdiv (n - s) h = q := by rw [Int.tdiv_eq_ediv_of_nonneg (by omega), hq]
    have a0 : 0 ≤ q := by rw [← hq]; exact Int.ediv_nonneg (by omega) (by omega)
    have a1 : q ≤ n - s := by rw [← hq]; exact Int.ediv_le_self _ (by omega)
    have e3 : IntKind.i64.wrap q = q := by rw [IntKind.wrap_i64]; omega
    have e4 : IntKind.i64.wrap (q + 1) = q + 1 := by rw [IntKind.wrap_i64]; omega
    have z0 : (h == 0) = false := by rw [beq_eq_false_iff_ne]; omega
    have z1 : ¬ h = 0 := by omega
    have HQ := Aside0.mk hq
    clear hq hlt
    go_enter Tryd.func96, Tryd.ntmps96
    go_wp2
    go_quiet (fail)
    go_wp2
    go_ret
    exact ⟨by rw [hF.out, HQ.out]; rfl, by repeat (first | exact Drawn0.refl _ | apply Drawn0.step)⟩
set_option maxHeartbeats 16000000 in
set_option maxRecDepth 100000 in
theorem needed_q (g : Nat) (s h b c p cnt last n : Int) (v : Value) (w : World) (hb : w.heap[g]? = some (.cells (strC s h b c p cnt last v) 86 (0, 0))) (hs : 0 ≤ s ∧ s ≤ 1000) (hh : 1 ≤ h ∧ h ≤ 1000) (hhs : h ≤ s) (h0 : 0 ≤ n) (h1 : n ≤ 4611686018427387904) :
    Calls Tryd.prog 67 #[.pointer (some ⟨g, 0, none⟩), .int .i64 n] w fun e w' => e = .returned (.int .i64 (neededI s h n)) ∧ Drawn0 w w' := by
  have hu98 := Tryd.underlying98
  have hu86 := Tryd.underlying86
  have hu84 := Tryd.underlying84
  have hu39 := Tryd.underlying39
  have hgw : g < w.heap.size := blk_lt hb
  have BK : Aside0 (w.heap[g]? = some (.cells #[.int .i64 s, .int .i64 h, .int .i64 b, .int .i64 c, .int .i64 p, .int .i64 cnt, .int .i64 last, v] 86 (0, 0))) := ⟨hb⟩
  have hfm := framesI_mul (s := s) (h := h) (n := n) hs.1 hh.1 hhs h0
  obtain ⟨q, hq⟩ : ∃ q, framesI s h n = q := ⟨_, rfl⟩
  obtain ⟨u, hu⟩ : ∃ u, q * h = u := ⟨_, rfl⟩
  rw [hq, hu] at hfm
  have HFR : Aside0 (∀ W : World, W.heap[g]? = some (.cells #[.int .i64 s, .int .i64 h, .int .i64 b, .int .i64 c, .int .i64 p, .int .i64 cnt, .int .i64 last, v] 86 (0, 0)) → Calls Tryd.prog 96 #[.pointer (some ⟨g, 0, none⟩), .int .i64 n] W fun e w' => e = .returned (.int .i64 q) ∧ Drawn0 W w') := ⟨fun W hbk => by
    rw [← hq]
    exact frames_q g s h b c p cnt last n v W hbk hs hh h0 h1⟩
  have e1 : IntKind.i64.wrap (q * h) = u := by rw [hu, IntKind.wrap_i64]; omega
  have e2 : IntKind.i64.wrap (n - u) = n - u := by rw [IntKind.wrap_i64]; omega
  have HN : Aside0 (neededI s h n = n - u) := ⟨by unfold neededI; rw [hq, hu]⟩
  have q1 := blk_cell BK.out 1
  clear hb hq hu hfm
  have ST0 : True := trivial
  go_enter Tryd.func67, Tryd.ntmps67
  go_wp2
  go_quiet (first
    | (go_at_call 96; refine quiet_d (HFR.out _ ?hc); (case hc => exact blk_drewN BK.out _)))
  go_wp2
  go_ret
  exact ⟨by rw [HN.out]; rfl, by repeat (first | exact Drawn0.refl _ | apply Drawn0.step)⟩

def setOk (s h cnt last : Int) (rest : List Int) : Bool := decide (0 ≤ cnt) && decide (cnt ≤ 4611686018427387904) && (decide (-32768 ≤ last) && decide (last < 32768)) && !(decide (cnt = 0) && !(decide (last = 0))) && decide ((rest.length : Int) = neededI s h cnt) && lvl rest
set_option maxHeartbeats 32000000 in
set_option maxRecDepth 100000 in
theorem set_pos (A : Option Addr) (c0 n g b0 : Nat) (s h b c p cnt last ct lt : Int) (v : Value) (rest xs : List Int) (w : World) (hS : StrAt w g b0 s h b c p cnt last v rest) (hs : 0 ≤ s ∧ s ≤ 1000) (hh : 1 ≤ h ∧ h ≤ 1000) (hhs : h ≤ s) (hl : xs.length = n) (hC : (Kd.int .i64).C w A n xs) (hn : n ≤ 1000000) (hok : setOk s h ct lt xs = true) (z0 : ¬ ct = 0) :
    Calls Tryd.prog 38 #[.pointer (some ⟨g, 0, none⟩), .agg #[.int .i64 ct, .int .i64 lt, .slice A n c0]] w fun e w' => ∃ v', e = .returned (.int .i64 0) ∧ StrAt w' g b0 s h b c p ct lt v' xs ∧ Keeps w w' g none ∧ (∀ k, v'.ownBlock = some k → w.heap.size ≤ k) := by
  simp only [setOk, Bool.and_eq_true, decide_eq_true_eq] at hok
  obtain ⟨⟨⟨⟨⟨a0, a1⟩, a2, a3⟩, a4⟩, a5⟩, a6⟩ := hok
  have hu49 := Tryd.underlying49
  have hu98 := Tryd.underlying98
  have hu86 := Tryd.underlying86
  have hu84 := Tryd.underlying84
  have hu39 := Tryd.underlying39
  have hu60 := Tryd.underlying60
  have hgw : g < w.heap.size := blk_lt hS.1
  have hb0g : b0 ≤ g := hS.2.1
  have BK : Aside0 (w.heap[g]? = some (.cells #[.int .i64 s, .int .i64 h, .int .i64 b, .int .i64 c, .int .i64 p, .int .i64 cnt, .int .i64 last, v] 86 (0, 0))) := ⟨hS.1⟩
  have HC := Aside0.mk hC
  have HXL := Aside0.mk hl
  have HND : Aside0 (∀ W : World, W.heap[g]? = some (.cells #[.int .i64 s, .int .i64 h, .int .i64 b, .int .i64 c, .int .i64 p, .int .i64 cnt, .int .i64 last, v] 86 (0, 0)) → Calls Tryd.prog 67 #[.pointer (some ⟨g, 0, none⟩), .int .i64 ct] W fun e w' => e = .returned (.int .i64 (n : Int)) ∧ Drawn0 W w') := ⟨fun W hbk => by
    rw [← hl, a5]
    exact needed_q g s h b c p cnt last ct v W hbk hs hh hhs a0 a1⟩
  have HSM : Aside0 (front_sample.f lt = some true) := ⟨by unfold front_sample.f; split <;> rename_i h <;> simp <;> omega⟩
  have HLV : Aside0 (∀ W : World, (Kd.int .i64).C W A n xs → Calls Tryd.prog 48 #[.slice A n c0] W fun e w' => e = .returned (.bool true) ∧ Drawn0 W w') := ⟨fun W hc => level_q A n c0 xs true W hl hc a6⟩
  have HCL : Aside0 (∀ W : World, (Kd.int .i64).C W A n xs → Calls Tryd.prog 66 #[.slice A n c0] W fun e w' => ∃ v, e = .returned v ∧ Aside0 ((Kd.int .i64).R 3 w' W.heap.size (fun _ => True) v xs) ∧ Aside0 (Below W.heap.size W w')) := ⟨fun W hc => (clone_go _ _ _ _ W hl hc hn).mono fun e w' ⟨v, a, r, q⟩ => ⟨v, a, ⟨r⟩, ⟨q⟩⟩⟩
  have d0 : decide (ct < 0) = false := decide_eq_false (by omega)
  have d1 : decide (4611686018427387904 < ct) = false := decide_eq_false (by omega)
  clear hS hC hl hn a4 a5 a6
  have ST0 : True := trivial
  go_enter Tryd.func38, Tryd.ntmps38
  go_wp2_with (first
    | ((with_reducible refine gate_dst (N := 3) rfl ?_); refine box_event ?hg (N := 3) ?hd (cs := #[.int .i64 ct, .int .i64 lt, .slice A n c0]) (t := 60) ?hr ?_; (case hd => rfl); (case hg => first | rfl | exact wanted_on rfl rfl rfl (by first | assumption | rfl | (simp [*]; done))); (case hr => first | (go_simp; done) | (go_simp; rfl)); intro gb hgb w1 hbox hb; subst hgb; have BX1 := Aside0.mk hbox; have HB1 := Aside0.mk hb; have HC1 := Aside0.mk (Kd.C_below HC.out hb); have BK1 := Aside0.mk (blk_below BK.out hb); have p0 := blk_cell BX1.out 0; have p1 := blk_cell BX1.out 1; have p2 := blk_cell BX1.out 2; clear ST0 hbox hb; have ST2 : True := trivial))
  go_quiet (first
    | (go_at_call 65; exact quiet_d (front_sample.calls _ _ _ HSM.out))
    | (go_at_call 67; refine quiet_d (HND.out _ ?hc); (case hc => exact blk_drewN BK1.out _))
    | (go_at_call 48; refine quiet_d (HLV.out _ ?hc); (case hc => repeat (first | exact HC1.out | refine Kd.C_drewN ?_ _))))
  go_wp2
  have HCK : Aside0 (∀ m : Nat, Calls Tryd.prog 66 #[.slice A n c0] (w1.drewN m) fun e w' => ∃ AC cC, e = .returned (.slice AC n cC) ∧ Aside0 ((Kd.int .i64).R 3 w' w.heap.size (fun _ => True) (.slice AC n cC) xs) ∧ Aside0 (Below w.heap.size w w') ∧ Aside0 (w'.heap[g]? = some (.cells #[.int .i64 s, .int .i64 h, .int .i64 b, .int .i64 c, .int .i64 p, .int .i64 cnt, .int .i64 last, v] 86 (0, 0))) ∧ Aside0 (w'.heap[w.heap.size]? = some (.cells #[.int .i64 ct, .int .i64 lt, .slice A n c0] 60 (0, 0)))) := ⟨fun m => by
    refine (HCL.out (w1.drewN m) (Kd.C_drewN HC1.out m)).mono ?_
    rintro e_ wc ⟨vC, rfl, RC, BC⟩
    obtain ⟨AC, cC, hvC, _, _⟩ := Kd.R_reads RC.out
    rw [HXL.out] at hvC
    subst hvC
    have hb := below_then (show Below w1.heap.size w1 (w1.drewN m) by exact pw_below_drewN (Below.refl _ _) _) (Nat.le_refl _) BC.out
    exact ⟨AC, cC, rfl, ⟨Kd.R_lower RC.out (Nat.le_trans HB1.out.size (Nat.le_refl _))⟩, ⟨below_step HB1.out hb⟩, ⟨blk_below BK1.out hb⟩, ⟨blk_below BX1.out hb⟩⟩⟩
  have hne0 : ¬ w.heap.size = g := by omega
  have hne1 : ¬ g = w.heap.size := by omega
  clear HB1 HC1 BK1 HCL
  go_region_law (first
    | (go_simp; go_at_call 66; (with_reducible refine (HCK.out _).mono ?_); rintro e_ wc ⟨AC, cC, rfl, RC, HBc, BKc, BXc⟩; have r5 := blk_cell BKc.out 5; have r6 := blk_cell BKc.out 6; have r7 := blk_cell BKc.out 7; have f5 := blk_frozen BKc.out 5; have f6 := blk_frozen BKc.out 6; have f7 := blk_frozen BKc.out 7; have p0c := blk_cell BXc.out 0; have p1c := blk_cell BXc.out 1; have p2c := blk_cell BXc.out 2; have hgwc : g < wc.heap.size := blk_lt BKc.out))
  all_goals
    go_wp2
    go_ret
    refine ⟨.slice AC n cC, rfl, ⟨?_, hb0g, ?_⟩, ?_, fun q hq => Kd.R_base RC.out q hq⟩
    · exact (blk_set (blk_set (blk_set BKc.out 5 _) 6 _) 7 _).trans rfl
    · exact Kd.R_lower (put_Rj (put_Rj (put_Rj RC.out (Nat.le_refl _) hgw) (Nat.le_refl _) hgw) (Nat.le_refl _) hgw) (Nat.le_trans hb0g (Nat.le_of_lt hgw))
    · exact ((((Keeps.refl w g none).below HBc.out).set 5 _).set 6 _).set 7 _
-- GENERATED BELOW
set_option maxHeartbeats 32000000 in
set_option maxRecDepth 100000 in
theorem set_zero (A : Option Addr) (c0 n g b0 : Nat) (s h b c p cnt last : Int) (v : Value) (rest xs : List Int) (w : World) (hS : StrAt w g b0 s h b c p cnt last v rest) (hs : 0 ≤ s ∧ s ≤ 1000) (hh : 1 ≤ h ∧ h ≤ 1000) (hhs : h ≤ s) (hl : xs.length = n) (hC : (Kd.int .i64).C w A n xs) (hn : n ≤ 1000000) (hok : setOk s h 0 0 xs = true) :
    Calls Tryd.prog 38 #[.pointer (some ⟨g, 0, none⟩), .agg #[.int .i64 0, .int .i64 0, .slice A n c0]] w fun e w' => ∃ v', e = .returned (.int .i64 0) ∧ StrAt w' g b0 s h b c p 0 0 v' xs ∧ Keeps w w' g none ∧ (∀ k, v'.ownBlock = some k → w.heap.size ≤ k) := by
  simp only [setOk, Bool.and_eq_true, decide_eq_true_eq] at hok
  obtain ⟨⟨⟨⟨⟨a0, a1⟩, a2, a3⟩, a4⟩, a5⟩, a6⟩ := hok
  have hu49 := Tryd.underlying49
  have hu98 := Tryd.underlying98
  have hu86 := Tryd.underlying86
  have hu84 := Tryd.underlying84
  have hu39 := Tryd.underlying39
  have hu60 := Tryd.underlying60
  have hgw : g < w.heap.size := blk_lt hS.1
  have hb0g : b0 ≤ g := hS.2.1
  have BK : Aside0 (w.heap[g]? = some (.cells #[.int .i64 s, .int .i64 h, .int .i64 b, .int .i64 c, .int .i64 p, .int .i64 cnt, .int .i64 last, v] 86 (0, 0))) := ⟨hS.1⟩
  have HC := Aside0.mk hC
  have HXL := Aside0.mk hl
  have HND : Aside0 (∀ W : World, W.heap[g]? = some (.cells #[.int .i64 s, .int .i64 h, .int .i64 b, .int .i64 c, .int .i64 p, .int .i64 cnt, .int .i64 last, v] 86 (0, 0)) → Calls Tryd.prog 67 #[.pointer (some ⟨g, 0, none⟩), .int .i64 0] W fun e w' => e = .returned (.int .i64 (n : Int)) ∧ Drawn0 W w') := ⟨fun W hbk => by
    rw [← hl, a5]
    exact needed_q g s h b c p cnt last 0 v W hbk hs hh hhs a0 a1⟩
  have HSM : Aside0 (front_sample.f 0 = some true) := ⟨by unfold front_sample.f; split <;> rename_i h <;> simp <;> omega⟩
  have HLV : Aside0 (∀ W : World, (Kd.int .i64).C W A n xs → Calls Tryd.prog 48 #[.slice A n c0] W fun e w' => e = .returned (.bool true) ∧ Drawn0 W w') := ⟨fun W hc => level_q A n c0 xs true W hl hc a6⟩
  have HCL : Aside0 (∀ W : World, (Kd.int .i64).C W A n xs → Calls Tryd.prog 66 #[.slice A n c0] W fun e w' => ∃ v, e = .returned v ∧ Aside0 ((Kd.int .i64).R 3 w' W.heap.size (fun _ => True) v xs) ∧ Aside0 (Below W.heap.size W w')) := ⟨fun W hc => (clone_go _ _ _ _ W hl hc hn).mono fun e w' ⟨v, a, r, q⟩ => ⟨v, a, ⟨r⟩, ⟨q⟩⟩⟩
  clear hS hC hl hn a4 a5 a6
  have ST0 : True := trivial
  go_enter Tryd.func38, Tryd.ntmps38
  go_wp2_with (first
    | ((with_reducible refine gate_dst (N := 3) rfl ?_); refine box_event ?hg (N := 3) ?hd (cs := #[.int .i64 0, .int .i64 0, .slice A n c0]) (t := 60) ?hr ?_; (case hd => rfl); (case hg => first | rfl | exact wanted_on rfl rfl rfl (by first | assumption | rfl | (simp [*]; done))); (case hr => first | (go_simp; done) | (go_simp; rfl)); intro gb hgb w1 hbox hb; subst hgb; have BX1 := Aside0.mk hbox; have HB1 := Aside0.mk hb; have HC1 := Aside0.mk (Kd.C_below HC.out hb); have BK1 := Aside0.mk (blk_below BK.out hb); have p0 := blk_cell BX1.out 0; have p1 := blk_cell BX1.out 1; have p2 := blk_cell BX1.out 2; clear ST0 hbox hb; have ST2 : True := trivial))
  go_quiet (first
    | (go_at_call 65; exact quiet_d (front_sample.calls _ _ _ HSM.out))
    | (go_at_call 67; refine quiet_d (HND.out _ ?hc); (case hc => exact blk_drewN BK1.out _))
    | (go_at_call 48; refine quiet_d (HLV.out _ ?hc); (case hc => repeat (first | exact HC1.out | refine Kd.C_drewN ?_ _))))
  go_wp2
  have HCK : Aside0 (∀ m : Nat, Calls Tryd.prog 66 #[.slice A n c0] (w1.drewN m) fun e w' => ∃ AC cC, e = .returned (.slice AC n cC) ∧ Aside0 ((Kd.int .i64).R 3 w' w.heap.size (fun _ => True) (.slice AC n cC) xs) ∧ Aside0 (Below w.heap.size w w') ∧ Aside0 (w'.heap[g]? = some (.cells #[.int .i64 s, .int .i64 h, .int .i64 b, .int .i64 c, .int .i64 p, .int .i64 cnt, .int .i64 last, v] 86 (0, 0))) ∧ Aside0 (w'.heap[w.heap.size]? = some (.cells #[.int .i64 0, .int .i64 0, .slice A n c0] 60 (0, 0)))) := ⟨fun m => by
    refine (HCL.out (w1.drewN m) (Kd.C_drewN HC1.out m)).mono ?_
    rintro e_ wc ⟨vC, rfl, RC, BC⟩
    obtain ⟨AC, cC, hvC, _, _⟩ := Kd.R_reads RC.out
    rw [HXL.out] at hvC
    subst hvC
    have hb := below_then (show Below w1.heap.size w1 (w1.drewN m) by exact pw_below_drewN (Below.refl _ _) _) (Nat.le_refl _) BC.out
    exact ⟨AC, cC, rfl, ⟨Kd.R_lower RC.out (Nat.le_trans HB1.out.size (Nat.le_refl _))⟩, ⟨below_step HB1.out hb⟩, ⟨blk_below BK1.out hb⟩, ⟨blk_below BX1.out hb⟩⟩⟩
  have hne0 : ¬ w.heap.size = g := by omega
  have hne1 : ¬ g = w.heap.size := by omega
  clear HB1 HC1 BK1 HCL
  go_region_law (first
    | (go_simp; go_at_call 66; (with_reducible refine (HCK.out _).mono ?_); rintro e_ wc ⟨AC, cC, rfl, RC, HBc, BKc, BXc⟩; have r5 := blk_cell BKc.out 5; have r6 := blk_cell BKc.out 6; have r7 := blk_cell BKc.out 7; have f5 := blk_frozen BKc.out 5; have f6 := blk_frozen BKc.out 6; have f7 := blk_frozen BKc.out 7; have p0c := blk_cell BXc.out 0; have p1c := blk_cell BXc.out 1; have p2c := blk_cell BXc.out 2; have hgwc : g < wc.heap.size := blk_lt BKc.out))
  all_goals
    go_wp2
    go_ret
    refine ⟨.slice AC n cC, rfl, ⟨?_, hb0g, ?_⟩, ?_, fun q hq => Kd.R_base RC.out q hq⟩
    · exact (blk_set (blk_set (blk_set BKc.out 5 _) 6 _) 7 _).trans rfl
    · exact Kd.R_lower (put_Rj (put_Rj (put_Rj RC.out (Nat.le_refl _) hgw) (Nat.le_refl _) hgw) (Nat.le_refl _) hgw) (Nat.le_trans hb0g (Nat.le_of_lt hgw))
    · exact ((((Keeps.refl w g none).below HBc.out).set 5 _).set 6 _).set 7 _
set_option maxHeartbeats 32000000 in
set_option maxRecDepth 100000 in
theorem set_no1 (A : Option Addr) (c0 n g b0 : Nat) (s h b c p cnt last ct lt : Int) (v : Value) (rest xs : List Int) (w : World) (hS : StrAt w g b0 s h b c p cnt last v rest) (hs : 0 ≤ s ∧ s ≤ 1000) (hh : 1 ≤ h ∧ h ≤ 1000) (hhs : h ≤ s) (hl : xs.length = n) (hC : (Kd.int .i64).C w A n xs) (a0 : ct < 0) :
    Calls Tryd.prog 38 #[.pointer (some ⟨g, 0, none⟩), .agg #[.int .i64 ct, .int .i64 lt, .slice A n c0]] w fun e w' => e = .returned (.int .i64 1) ∧ Below w.heap.size w w' := by
  have hu49 := Tryd.underlying49
  have hu98 := Tryd.underlying98
  have hu86 := Tryd.underlying86
  have hu84 := Tryd.underlying84
  have hu39 := Tryd.underlying39
  have hu60 := Tryd.underlying60
  have hgw : g < w.heap.size := blk_lt hS.1
  have BK : Aside0 (w.heap[g]? = some (.cells #[.int .i64 s, .int .i64 h, .int .i64 b, .int .i64 c, .int .i64 p, .int .i64 cnt, .int .i64 last, v] 86 (0, 0))) := ⟨hS.1⟩
  have HC := Aside0.mk hC
  have d0 : decide (ct < 0) = true := decide_eq_true a0
  clear hS hC hl
  have ST0 : True := trivial
  go_enter Tryd.func38, Tryd.ntmps38
  go_wp2_with (first
    | ((with_reducible refine gate_dst (N := 3) rfl ?_); refine box_event ?hg (N := 3) ?hd (cs := #[.int .i64 ct, .int .i64 lt, .slice A n c0]) (t := 60) ?hr ?_; (case hd => rfl); (case hg => first | rfl | exact wanted_on rfl rfl rfl (by first | assumption | rfl | (simp [*]; done))); (case hr => first | (go_simp; done) | (go_simp; rfl)); intro gb hgb w1 hbox hb; subst hgb; have BX1 := Aside0.mk hbox; have HB1 := Aside0.mk hb; have HC1 := Aside0.mk (Kd.C_below HC.out hb); have BK1 := Aside0.mk (blk_below BK.out hb); have p0 := blk_cell BX1.out 0; have p1 := blk_cell BX1.out 1; have p2 := blk_cell BX1.out 2; clear ST0 hbox hb; have ST2 : True := trivial))
  go_quiet (fail)
  go_wp2
  go_ret
  exact ⟨rfl, by repeat (first | exact HB1.out | apply pw_below_drewN)⟩
set_option maxHeartbeats 32000000 in
set_option maxRecDepth 100000 in
theorem set_no2 (A : Option Addr) (c0 n g b0 : Nat) (s h b c p cnt last ct lt : Int) (v : Value) (rest xs : List Int) (w : World) (hS : StrAt w g b0 s h b c p cnt last v rest) (hs : 0 ≤ s ∧ s ≤ 1000) (hh : 1 ≤ h ∧ h ≤ 1000) (hhs : h ≤ s) (hl : xs.length = n) (hC : (Kd.int .i64).C w A n xs) (a0 : 0 ≤ ct) (a1 : 4611686018427387904 < ct) :
    Calls Tryd.prog 38 #[.pointer (some ⟨g, 0, none⟩), .agg #[.int .i64 ct, .int .i64 lt, .slice A n c0]] w fun e w' => e = .returned (.int .i64 1) ∧ Below w.heap.size w w' := by
  have hu49 := Tryd.underlying49
  have hu98 := Tryd.underlying98
  have hu86 := Tryd.underlying86
  have hu84 := Tryd.underlying84
  have hu39 := Tryd.underlying39
  have hu60 := Tryd.underlying60
  have hgw : g < w.heap.size := blk_lt hS.1
  have BK : Aside0 (w.heap[g]? = some (.cells #[.int .i64 s, .int .i64 h, .int .i64 b, .int .i64 c, .int .i64 p, .int .i64 cnt, .int .i64 last, v] 86 (0, 0))) := ⟨hS.1⟩
  have HC := Aside0.mk hC
  have d0 : decide (ct < 0) = false := decide_eq_false (by omega)
  have d1 : decide (4611686018427387904 < ct) = true := decide_eq_true a1
  clear hS hC hl
  have ST0 : True := trivial
  go_enter Tryd.func38, Tryd.ntmps38
  go_wp2_with (first
    | ((with_reducible refine gate_dst (N := 3) rfl ?_); refine box_event ?hg (N := 3) ?hd (cs := #[.int .i64 ct, .int .i64 lt, .slice A n c0]) (t := 60) ?hr ?_; (case hd => rfl); (case hg => first | rfl | exact wanted_on rfl rfl rfl (by first | assumption | rfl | (simp [*]; done))); (case hr => first | (go_simp; done) | (go_simp; rfl)); intro gb hgb w1 hbox hb; subst hgb; have BX1 := Aside0.mk hbox; have HB1 := Aside0.mk hb; have HC1 := Aside0.mk (Kd.C_below HC.out hb); have BK1 := Aside0.mk (blk_below BK.out hb); have p0 := blk_cell BX1.out 0; have p1 := blk_cell BX1.out 1; have p2 := blk_cell BX1.out 2; clear ST0 hbox hb; have ST2 : True := trivial))
  go_quiet (fail)
  go_wp2
  go_ret
  exact ⟨rfl, by repeat (first | exact HB1.out | apply pw_below_drewN)⟩
set_option maxHeartbeats 32000000 in
set_option maxRecDepth 100000 in
theorem set_no3 (A : Option Addr) (c0 n g b0 : Nat) (s h b c p cnt last ct lt : Int) (v : Value) (rest xs : List Int) (w : World) (hS : StrAt w g b0 s h b c p cnt last v rest) (hs : 0 ≤ s ∧ s ≤ 1000) (hh : 1 ≤ h ∧ h ≤ 1000) (hhs : h ≤ s) (hl : xs.length = n) (hC : (Kd.int .i64).C w A n xs) (a0 : 0 ≤ ct) (a1 : ct ≤ 4611686018427387904) (a2 : lt < -32768 ∨ 32768 ≤ lt) :
    Calls Tryd.prog 38 #[.pointer (some ⟨g, 0, none⟩), .agg #[.int .i64 ct, .int .i64 lt, .slice A n c0]] w fun e w' => e = .returned (.int .i64 1) ∧ Below w.heap.size w w' := by
  have hu49 := Tryd.underlying49
  have hu98 := Tryd.underlying98
  have hu86 := Tryd.underlying86
  have hu84 := Tryd.underlying84
  have hu39 := Tryd.underlying39
  have hu60 := Tryd.underlying60
  have hgw : g < w.heap.size := blk_lt hS.1
  have BK : Aside0 (w.heap[g]? = some (.cells #[.int .i64 s, .int .i64 h, .int .i64 b, .int .i64 c, .int .i64 p, .int .i64 cnt, .int .i64 last, v] 86 (0, 0))) := ⟨hS.1⟩
  have HC := Aside0.mk hC
  have HSM : Aside0 (front_sample.f lt = some false) := ⟨by unfold front_sample.f; split <;> rename_i h <;> simp <;> omega⟩
  have d0 : decide (ct < 0) = false := decide_eq_false (by omega)
  have d1 : decide (4611686018427387904 < ct) = false := decide_eq_false (by omega)
  clear hS hC hl
  have ST0 : True := trivial
  go_enter Tryd.func38, Tryd.ntmps38
  go_wp2_with (first
    | ((with_reducible refine gate_dst (N := 3) rfl ?_); refine box_event ?hg (N := 3) ?hd (cs := #[.int .i64 ct, .int .i64 lt, .slice A n c0]) (t := 60) ?hr ?_; (case hd => rfl); (case hg => first | rfl | exact wanted_on rfl rfl rfl (by first | assumption | rfl | (simp [*]; done))); (case hr => first | (go_simp; done) | (go_simp; rfl)); intro gb hgb w1 hbox hb; subst hgb; have BX1 := Aside0.mk hbox; have HB1 := Aside0.mk hb; have HC1 := Aside0.mk (Kd.C_below HC.out hb); have BK1 := Aside0.mk (blk_below BK.out hb); have p0 := blk_cell BX1.out 0; have p1 := blk_cell BX1.out 1; have p2 := blk_cell BX1.out 2; clear ST0 hbox hb; have ST2 : True := trivial))
  go_quiet (first
    | (go_at_call 65; exact quiet_d (front_sample.calls _ _ _ HSM.out)))
  go_wp2
  go_ret
  exact ⟨rfl, by repeat (first | exact HB1.out | apply pw_below_drewN)⟩
set_option maxHeartbeats 32000000 in
set_option maxRecDepth 100000 in
theorem set_no4 (A : Option Addr) (c0 n g b0 : Nat) (s h b c p cnt last lt : Int) (v : Value) (rest xs : List Int) (w : World) (hS : StrAt w g b0 s h b c p cnt last v rest) (hs : 0 ≤ s ∧ s ≤ 1000) (hh : 1 ≤ h ∧ h ≤ 1000) (hhs : h ≤ s) (hl : xs.length = n) (hC : (Kd.int .i64).C w A n xs) (a2 : -32768 ≤ lt ∧ lt < 32768) (z1 : ¬ lt = 0) :
    Calls Tryd.prog 38 #[.pointer (some ⟨g, 0, none⟩), .agg #[.int .i64 0, .int .i64 lt, .slice A n c0]] w fun e w' => e = .returned (.int .i64 1) ∧ Below w.heap.size w w' := by
  have hu49 := Tryd.underlying49
  have hu98 := Tryd.underlying98
  have hu86 := Tryd.underlying86
  have hu84 := Tryd.underlying84
  have hu39 := Tryd.underlying39
  have hu60 := Tryd.underlying60
  have hgw : g < w.heap.size := blk_lt hS.1
  have BK : Aside0 (w.heap[g]? = some (.cells #[.int .i64 s, .int .i64 h, .int .i64 b, .int .i64 c, .int .i64 p, .int .i64 cnt, .int .i64 last, v] 86 (0, 0))) := ⟨hS.1⟩
  have HC := Aside0.mk hC
  have HSM : Aside0 (front_sample.f lt = some true) := ⟨by unfold front_sample.f; split <;> rename_i h <;> simp <;> omega⟩
  clear hS hC hl
  have ST0 : True := trivial
  go_enter Tryd.func38, Tryd.ntmps38
  go_wp2_with (first
    | ((with_reducible refine gate_dst (N := 3) rfl ?_); refine box_event ?hg (N := 3) ?hd (cs := #[.int .i64 0, .int .i64 lt, .slice A n c0]) (t := 60) ?hr ?_; (case hd => rfl); (case hg => first | rfl | exact wanted_on rfl rfl rfl (by first | assumption | rfl | (simp [*]; done))); (case hr => first | (go_simp; done) | (go_simp; rfl)); intro gb hgb w1 hbox hb; subst hgb; have BX1 := Aside0.mk hbox; have HB1 := Aside0.mk hb; have HC1 := Aside0.mk (Kd.C_below HC.out hb); have BK1 := Aside0.mk (blk_below BK.out hb); have p0 := blk_cell BX1.out 0; have p1 := blk_cell BX1.out 1; have p2 := blk_cell BX1.out 2; clear ST0 hbox hb; have ST2 : True := trivial))
  go_quiet (first
    | (go_at_call 65; exact quiet_d (front_sample.calls _ _ _ HSM.out)))
  go_wp2
  go_ret
  exact ⟨rfl, by repeat (first | exact HB1.out | apply pw_below_drewN)⟩
set_option maxHeartbeats 32000000 in
set_option maxRecDepth 100000 in
theorem set_no5 (A : Option Addr) (c0 n g b0 : Nat) (s h b c p cnt last ct lt : Int) (v : Value) (rest xs : List Int) (w : World) (hS : StrAt w g b0 s h b c p cnt last v rest) (hs : 0 ≤ s ∧ s ≤ 1000) (hh : 1 ≤ h ∧ h ≤ 1000) (hhs : h ≤ s) (hl : xs.length = n) (hC : (Kd.int .i64).C w A n xs) (a0 : 0 ≤ ct) (a1 : ct ≤ 4611686018427387904) (a2 : -32768 ≤ lt ∧ lt < 32768) (z0 : ¬ ct = 0) (a5 : ¬ (n : Int) = neededI s h ct) :
    Calls Tryd.prog 38 #[.pointer (some ⟨g, 0, none⟩), .agg #[.int .i64 ct, .int .i64 lt, .slice A n c0]] w fun e w' => e = .returned (.int .i64 1) ∧ Below w.heap.size w w' := by
  have hu49 := Tryd.underlying49
  have hu98 := Tryd.underlying98
  have hu86 := Tryd.underlying86
  have hu84 := Tryd.underlying84
  have hu39 := Tryd.underlying39
  have hu60 := Tryd.underlying60
  have hgw : g < w.heap.size := blk_lt hS.1
  have BK : Aside0 (w.heap[g]? = some (.cells #[.int .i64 s, .int .i64 h, .int .i64 b, .int .i64 c, .int .i64 p, .int .i64 cnt, .int .i64 last, v] 86 (0, 0))) := ⟨hS.1⟩
  have HC := Aside0.mk hC
  obtain ⟨nd, hnd⟩ : ∃ q, neededI s h ct = q := ⟨_, rfl⟩
  have HND : Aside0 (∀ W : World, W.heap[g]? = some (.cells #[.int .i64 s, .int .i64 h, .int .i64 b, .int .i64 c, .int .i64 p, .int .i64 cnt, .int .i64 last, v] 86 (0, 0)) → Calls Tryd.prog 67 #[.pointer (some ⟨g, 0, none⟩), .int .i64 ct] W fun e w' => e = .returned (.int .i64 nd) ∧ Drawn0 W w') := ⟨fun W hbk => by
    rw [← hnd]
    exact needed_q g s h b c p cnt last ct v W hbk hs hh hhs (by omega) (by omega)⟩
  have HSM : Aside0 (front_sample.f lt = some true) := ⟨by unfold front_sample.f; split <;> rename_i h <;> simp <;> omega⟩
  have hne : ¬ (n : Int) = nd := by rw [← hnd]; exact a5
  have d0 : decide (ct < 0) = false := decide_eq_false (by omega)
  have d1 : decide (4611686018427387904 < ct) = false := decide_eq_false (by omega)
  clear hnd a5
  clear hS hC hl
  have ST0 : True := trivial
  go_enter Tryd.func38, Tryd.ntmps38
  go_wp2_with (first
    | ((with_reducible refine gate_dst (N := 3) rfl ?_); refine box_event ?hg (N := 3) ?hd (cs := #[.int .i64 ct, .int .i64 lt, .slice A n c0]) (t := 60) ?hr ?_; (case hd => rfl); (case hg => first | rfl | exact wanted_on rfl rfl rfl (by first | assumption | rfl | (simp [*]; done))); (case hr => first | (go_simp; done) | (go_simp; rfl)); intro gb hgb w1 hbox hb; subst hgb; have BX1 := Aside0.mk hbox; have HB1 := Aside0.mk hb; have HC1 := Aside0.mk (Kd.C_below HC.out hb); have BK1 := Aside0.mk (blk_below BK.out hb); have p0 := blk_cell BX1.out 0; have p1 := blk_cell BX1.out 1; have p2 := blk_cell BX1.out 2; clear ST0 hbox hb; have ST2 : True := trivial))
  go_quiet (first
    | (go_at_call 65; exact quiet_d (front_sample.calls _ _ _ HSM.out))
    | (go_at_call 67; refine quiet_d (HND.out _ ?hc); (case hc => exact blk_drewN BK1.out _)))
  go_wp2
  go_ret
  exact ⟨rfl, by repeat (first | exact HB1.out | apply pw_below_drewN)⟩
set_option maxHeartbeats 32000000 in
set_option maxRecDepth 100000 in
theorem set_no5z (A : Option Addr) (c0 n g b0 : Nat) (s h b c p cnt last : Int) (v : Value) (rest xs : List Int) (w : World) (hS : StrAt w g b0 s h b c p cnt last v rest) (hs : 0 ≤ s ∧ s ≤ 1000) (hh : 1 ≤ h ∧ h ≤ 1000) (hhs : h ≤ s) (hl : xs.length = n) (hC : (Kd.int .i64).C w A n xs) (a5 : ¬ (n : Int) = neededI s h 0) :
    Calls Tryd.prog 38 #[.pointer (some ⟨g, 0, none⟩), .agg #[.int .i64 0, .int .i64 0, .slice A n c0]] w fun e w' => e = .returned (.int .i64 1) ∧ Below w.heap.size w w' := by
  have hu49 := Tryd.underlying49
  have hu98 := Tryd.underlying98
  have hu86 := Tryd.underlying86
  have hu84 := Tryd.underlying84
  have hu39 := Tryd.underlying39
  have hu60 := Tryd.underlying60
  have hgw : g < w.heap.size := blk_lt hS.1
  have BK : Aside0 (w.heap[g]? = some (.cells #[.int .i64 s, .int .i64 h, .int .i64 b, .int .i64 c, .int .i64 p, .int .i64 cnt, .int .i64 last, v] 86 (0, 0))) := ⟨hS.1⟩
  have HC := Aside0.mk hC
  obtain ⟨nd, hnd⟩ : ∃ q, neededI s h 0 = q := ⟨_, rfl⟩
  have HND : Aside0 (∀ W : World, W.heap[g]? = some (.cells #[.int .i64 s, .int .i64 h, .int .i64 b, .int .i64 c, .int .i64 p, .int .i64 cnt, .int .i64 last, v] 86 (0, 0)) → Calls Tryd.prog 67 #[.pointer (some ⟨g, 0, none⟩), .int .i64 0] W fun e w' => e = .returned (.int .i64 nd) ∧ Drawn0 W w') := ⟨fun W hbk => by
    rw [← hnd]
    exact needed_q g s h b c p cnt last 0 v W hbk hs hh hhs (by omega) (by omega)⟩
  have HSM : Aside0 (front_sample.f 0 = some true) := ⟨by unfold front_sample.f; split <;> rename_i h <;> simp <;> omega⟩
  have hne : ¬ (n : Int) = nd := by rw [← hnd]; exact a5
  clear hnd a5
  clear hS hC hl
  have ST0 : True := trivial
  go_enter Tryd.func38, Tryd.ntmps38
  go_wp2_with (first
    | ((with_reducible refine gate_dst (N := 3) rfl ?_); refine box_event ?hg (N := 3) ?hd (cs := #[.int .i64 0, .int .i64 0, .slice A n c0]) (t := 60) ?hr ?_; (case hd => rfl); (case hg => first | rfl | exact wanted_on rfl rfl rfl (by first | assumption | rfl | (simp [*]; done))); (case hr => first | (go_simp; done) | (go_simp; rfl)); intro gb hgb w1 hbox hb; subst hgb; have BX1 := Aside0.mk hbox; have HB1 := Aside0.mk hb; have HC1 := Aside0.mk (Kd.C_below HC.out hb); have BK1 := Aside0.mk (blk_below BK.out hb); have p0 := blk_cell BX1.out 0; have p1 := blk_cell BX1.out 1; have p2 := blk_cell BX1.out 2; clear ST0 hbox hb; have ST2 : True := trivial))
  go_quiet (first
    | (go_at_call 65; exact quiet_d (front_sample.calls _ _ _ HSM.out))
    | (go_at_call 67; refine quiet_d (HND.out _ ?hc); (case hc => exact blk_drewN BK1.out _)))
  go_wp2
  go_ret
  exact ⟨rfl, by repeat (first | exact HB1.out | apply pw_below_drewN)⟩
set_option maxHeartbeats 32000000 in
set_option maxRecDepth 100000 in
theorem set_no6 (A : Option Addr) (c0 n g b0 : Nat) (s h b c p cnt last ct lt : Int) (v : Value) (rest xs : List Int) (w : World) (hS : StrAt w g b0 s h b c p cnt last v rest) (hs : 0 ≤ s ∧ s ≤ 1000) (hh : 1 ≤ h ∧ h ≤ 1000) (hhs : h ≤ s) (hl : xs.length = n) (hC : (Kd.int .i64).C w A n xs) (a0 : 0 ≤ ct) (a1 : ct ≤ 4611686018427387904) (a2 : -32768 ≤ lt ∧ lt < 32768) (z0 : ¬ ct = 0) (a5 : (n : Int) = neededI s h ct) (a6 : lvl xs = false) :
    Calls Tryd.prog 38 #[.pointer (some ⟨g, 0, none⟩), .agg #[.int .i64 ct, .int .i64 lt, .slice A n c0]] w fun e w' => e = .returned (.int .i64 1) ∧ Below w.heap.size w w' := by
  have hu49 := Tryd.underlying49
  have hu98 := Tryd.underlying98
  have hu86 := Tryd.underlying86
  have hu84 := Tryd.underlying84
  have hu39 := Tryd.underlying39
  have hu60 := Tryd.underlying60
  have hgw : g < w.heap.size := blk_lt hS.1
  have BK : Aside0 (w.heap[g]? = some (.cells #[.int .i64 s, .int .i64 h, .int .i64 b, .int .i64 c, .int .i64 p, .int .i64 cnt, .int .i64 last, v] 86 (0, 0))) := ⟨hS.1⟩
  have HC := Aside0.mk hC
  obtain ⟨nd, hnd⟩ : ∃ q, neededI s h ct = q := ⟨_, rfl⟩
  have HND : Aside0 (∀ W : World, W.heap[g]? = some (.cells #[.int .i64 s, .int .i64 h, .int .i64 b, .int .i64 c, .int .i64 p, .int .i64 cnt, .int .i64 last, v] 86 (0, 0)) → Calls Tryd.prog 67 #[.pointer (some ⟨g, 0, none⟩), .int .i64 ct] W fun e w' => e = .returned (.int .i64 nd) ∧ Drawn0 W w') := ⟨fun W hbk => by
    rw [← hnd]
    exact needed_q g s h b c p cnt last ct v W hbk hs hh hhs (by omega) (by omega)⟩
  have HSM : Aside0 (front_sample.f lt = some true) := ⟨by unfold front_sample.f; split <;> rename_i h <;> simp <;> omega⟩
  have HLV : Aside0 (∀ W : World, (Kd.int .i64).C W A n xs → Calls Tryd.prog 48 #[.slice A n c0] W fun e w' => e = .returned (.bool false) ∧ Drawn0 W w') := ⟨fun W hc => level_q A n c0 xs false W hl hc a6⟩
  have hqe : nd = (n : Int) := by rw [← hnd]; exact a5.symm
  subst hqe
  have d0 : decide (ct < 0) = false := decide_eq_false (by omega)
  have d1 : decide (4611686018427387904 < ct) = false := decide_eq_false (by omega)
  clear a5 hnd
  clear hS hC hl
  have ST0 : True := trivial
  go_enter Tryd.func38, Tryd.ntmps38
  go_wp2_with (first
    | ((with_reducible refine gate_dst (N := 3) rfl ?_); refine box_event ?hg (N := 3) ?hd (cs := #[.int .i64 ct, .int .i64 lt, .slice A n c0]) (t := 60) ?hr ?_; (case hd => rfl); (case hg => first | rfl | exact wanted_on rfl rfl rfl (by first | assumption | rfl | (simp [*]; done))); (case hr => first | (go_simp; done) | (go_simp; rfl)); intro gb hgb w1 hbox hb; subst hgb; have BX1 := Aside0.mk hbox; have HB1 := Aside0.mk hb; have HC1 := Aside0.mk (Kd.C_below HC.out hb); have BK1 := Aside0.mk (blk_below BK.out hb); have p0 := blk_cell BX1.out 0; have p1 := blk_cell BX1.out 1; have p2 := blk_cell BX1.out 2; clear ST0 hbox hb; have ST2 : True := trivial))
  go_quiet (first
    | (go_at_call 65; exact quiet_d (front_sample.calls _ _ _ HSM.out))
    | (go_at_call 67; refine quiet_d (HND.out _ ?hc); (case hc => exact blk_drewN BK1.out _))
    | (go_at_call 48; refine quiet_d (HLV.out _ ?hc); (case hc => repeat (first | exact HC1.out | refine Kd.C_drewN ?_ _))))
  go_wp2
  go_ret
  exact ⟨rfl, by repeat (first | exact HB1.out | apply pw_below_drewN)⟩
set_option maxHeartbeats 32000000 in
set_option maxRecDepth 100000 in
theorem set_no6z (A : Option Addr) (c0 n g b0 : Nat) (s h b c p cnt last : Int) (v : Value) (rest xs : List Int) (w : World) (hS : StrAt w g b0 s h b c p cnt last v rest) (hs : 0 ≤ s ∧ s ≤ 1000) (hh : 1 ≤ h ∧ h ≤ 1000) (hhs : h ≤ s) (hl : xs.length = n) (hC : (Kd.int .i64).C w A n xs) (a5 : (n : Int) = neededI s h 0) (a6 : lvl xs = false) :
    Calls Tryd.prog 38 #[.pointer (some ⟨g, 0, none⟩), .agg #[.int .i64 0, .int .i64 0, .slice A n c0]] w fun e w' => e = .returned (.int .i64 1) ∧ Below w.heap.size w w' := by
  have hu49 := Tryd.underlying49
  have hu98 := Tryd.underlying98
  have hu86 := Tryd.underlying86
  have hu84 := Tryd.underlying84
  have hu39 := Tryd.underlying39
  have hu60 := Tryd.underlying60
  have hgw : g < w.heap.size := blk_lt hS.1
  have BK : Aside0 (w.heap[g]? = some (.cells #[.int .i64 s, .int .i64 h, .int .i64 b, .int .i64 c, .int .i64 p, .int .i64 cnt, .int .i64 last, v] 86 (0, 0))) := ⟨hS.1⟩
  have HC := Aside0.mk hC
  obtain ⟨nd, hnd⟩ : ∃ q, neededI s h 0 = q := ⟨_, rfl⟩
  have HND : Aside0 (∀ W : World, W.heap[g]? = some (.cells #[.int .i64 s, .int .i64 h, .int .i64 b, .int .i64 c, .int .i64 p, .int .i64 cnt, .int .i64 last, v] 86 (0, 0)) → Calls Tryd.prog 67 #[.pointer (some ⟨g, 0, none⟩), .int .i64 0] W fun e w' => e = .returned (.int .i64 nd) ∧ Drawn0 W w') := ⟨fun W hbk => by
    rw [← hnd]
    exact needed_q g s h b c p cnt last 0 v W hbk hs hh hhs (by omega) (by omega)⟩
  have HSM : Aside0 (front_sample.f 0 = some true) := ⟨by unfold front_sample.f; split <;> rename_i h <;> simp <;> omega⟩
  have HLV : Aside0 (∀ W : World, (Kd.int .i64).C W A n xs → Calls Tryd.prog 48 #[.slice A n c0] W fun e w' => e = .returned (.bool false) ∧ Drawn0 W w') := ⟨fun W hc => level_q A n c0 xs false W hl hc a6⟩
  have hqe : nd = (n : Int) := by rw [← hnd]; exact a5.symm
  subst hqe
  clear a5 hnd
  clear hS hC hl
  have ST0 : True := trivial
  go_enter Tryd.func38, Tryd.ntmps38
  go_wp2_with (first
    | ((with_reducible refine gate_dst (N := 3) rfl ?_); refine box_event ?hg (N := 3) ?hd (cs := #[.int .i64 0, .int .i64 0, .slice A n c0]) (t := 60) ?hr ?_; (case hd => rfl); (case hg => first | rfl | exact wanted_on rfl rfl rfl (by first | assumption | rfl | (simp [*]; done))); (case hr => first | (go_simp; done) | (go_simp; rfl)); intro gb hgb w1 hbox hb; subst hgb; have BX1 := Aside0.mk hbox; have HB1 := Aside0.mk hb; have HC1 := Aside0.mk (Kd.C_below HC.out hb); have BK1 := Aside0.mk (blk_below BK.out hb); have p0 := blk_cell BX1.out 0; have p1 := blk_cell BX1.out 1; have p2 := blk_cell BX1.out 2; clear ST0 hbox hb; have ST2 : True := trivial))
  go_quiet (first
    | (go_at_call 65; exact quiet_d (front_sample.calls _ _ _ HSM.out))
    | (go_at_call 67; refine quiet_d (HND.out _ ?hc); (case hc => exact blk_drewN BK1.out _))
    | (go_at_call 48; refine quiet_d (HLV.out _ ?hc); (case hc => repeat (first | exact HC1.out | refine Kd.C_drewN ?_ _))))
  go_wp2
  go_ret
  exact ⟨rfl, by repeat (first | exact HB1.out | apply pw_below_drewN)⟩
theorem set_yes (A : Option Addr) (c0 n g b0 : Nat) (s h b c p cnt last ct lt : Int) (v : Value) (rest xs : List Int) (w : World) (hS : StrAt w g b0 s h b c p cnt last v rest) (hs : 0 ≤ s ∧ s ≤ 1000) (hh : 1 ≤ h ∧ h ≤ 1000) (hhs : h ≤ s) (hl : xs.length = n) (hC : (Kd.int .i64).C w A n xs) (hn : n ≤ 1000000) (hok : setOk s h ct lt xs = true) :
    Calls Tryd.prog 38 #[.pointer (some ⟨g, 0, none⟩), .agg #[.int .i64 ct, .int .i64 lt, .slice A n c0]] w fun e w' => ∃ v', e = .returned (.int .i64 0) ∧ StrAt w' g b0 s h b c p ct lt v' xs ∧ Keeps w w' g none ∧ (∀ k, v'.ownBlock = some k → w.heap.size ≤ k) := by
  by_cases z0 : ct = 0
  · subst z0
    have z1 : lt = 0 := by
      simp only [setOk, Bool.and_eq_true, decide_eq_true_eq] at hok
      obtain ⟨⟨⟨_, a4⟩, _⟩, _⟩ := hok
      simpa using a4
    subst z1
    exact set_zero A c0 n g b0 s h b c p cnt last v rest xs w hS hs hh hhs hl hC hn hok
  · exact set_pos A c0 n g b0 s h b c p cnt last ct lt v rest xs w hS hs hh hhs hl hC hn hok z0
theorem set_no (A : Option Addr) (c0 n g b0 : Nat) (s h b c p cnt last ct lt : Int) (v : Value) (rest xs : List Int) (w : World) (hS : StrAt w g b0 s h b c p cnt last v rest) (hs : 0 ≤ s ∧ s ≤ 1000) (hh : 1 ≤ h ∧ h ≤ 1000) (hhs : h ≤ s) (hl : xs.length = n) (hC : (Kd.int .i64).C w A n xs) (hok : setOk s h ct lt xs = false) :
    Calls Tryd.prog 38 #[.pointer (some ⟨g, 0, none⟩), .agg #[.int .i64 ct, .int .i64 lt, .slice A n c0]] w fun e w' => e = .returned (.int .i64 1) ∧ Below w.heap.size w w' := by
  by_cases a0 : 0 ≤ ct
  case neg => exact set_no1 A c0 n g b0 s h b c p cnt last ct lt v rest xs w hS hs hh hhs hl hC (by omega)
  by_cases a1 : ct ≤ 4611686018427387904
  case neg => exact set_no2 A c0 n g b0 s h b c p cnt last ct lt v rest xs w hS hs hh hhs hl hC a0 (by omega)
  by_cases a2 : -32768 ≤ lt ∧ lt < 32768
  case neg => exact set_no3 A c0 n g b0 s h b c p cnt last ct lt v rest xs w hS hs hh hhs hl hC a0 a1 (by omega)
  by_cases z0 : ct = 0
  · subst z0
    by_cases z1 : lt = 0
    · subst z1
      by_cases a5 : (n : Int) = neededI s h 0
      · refine set_no6z A c0 n g b0 s h b c p cnt last v rest xs w hS hs hh hhs hl hC a5 ?_
        rw [← hl] at a5
        cases hv : lvl xs
        · rfl
        · simp [setOk, a5, hv] at hok
      · exact set_no5z A c0 n g b0 s h b c p cnt last v rest xs w hS hs hh hhs hl hC a5
    · exact set_no4 A c0 n g b0 s h b c p cnt last lt v rest xs w hS hs hh hhs hl hC a2 z1
  · by_cases a5 : (n : Int) = neededI s h ct
    · refine set_no6 A c0 n g b0 s h b c p cnt last ct lt v rest xs w hS hs hh hhs hl hC a0 a1 a2 z0 a5 ?_
      rw [← hl] at a5
      cases hv : lvl xs
      · rfl
      · have hx : setOk s h ct lt xs = true := by
          simp only [setOk, Bool.and_eq_true, decide_eq_true_eq]
          exact ⟨⟨⟨⟨⟨a0, a1⟩, a2⟩, by simp [z0]⟩, a5⟩, hv⟩
        rw [hx] at hok
        cases hok
    · exact set_no5 A c0 n g b0 s h b c p cnt last ct lt v rest xs w hS hs hh hhs hl hC a0 a1 a2 z0 a5

/-! ### Push, told by all sound so far -/
theorem any_app {l m : List Int} (h1 : l.any badPU = false) (h2 : m.any badPU = false) : (l ++ m).any badPU = false := by rw [List.any_append, h1, h2]; rfl
theorem last_in {l : List Int} (h : l.any badPU = false) : -32768 ≤ lastL 0 l ∧ lastL 0 l ≤ 32767 := lastL_in (by omega) (push_ok h)
theorem push_st (A : Option Addr) (c n g b0 N Hp : Nat) (b cf p : Int) (L xs : List Int) (T : List (List Int)) (v : Value) (w : World) (hG : GlobA w) (hb0 : 1 ≤ b0) (hbw : b0 ≤ w.heap.size)
    (hS : StrAt w g b0 (N : Int) (Hp : Int) b cf p (L.length : Int) (lastL 0 L) v (rssL (N : Int) (Hp : Int) b cf p L)) (hl : xs.length = n) (hC : (Kd.int .i64).C w A n xs) (hA : ∀ ad, A = some ad → 0 < n → ad.block ≠ g ∧ some ad.block ≠ v.ownBlock)
    (hx : xs.any badPU = false) (hLx : L.any badPU = false) (hp : 0 ≤ p ∧ p < 32768) (hN : 0 < N) (hH1 : 1 ≤ Hp) (hHN : Hp ≤ N) (hN64 : N ≤ 64) (hn : n ≤ 100000) (hLn : L.length ≤ 100000)
    (hT : frsL (N : Int) (Hp : Int) b cf p (L ++ xs) = frsL (N : Int) (Hp : Int) b cf p L ++ T) :
    Calls Tryd.prog 31 #[.pointer (some ⟨g, 0, none⟩), .slice A n c] w fun e w' => ∃ A1 c1 v', e = .returned (.tuple #[.slice A1 T.length c1, .int .i64 0]) ∧ T.length ≤ c1 ∧ Aside0 (StrAt w' g b0 (N : Int) (Hp : Int) b cf p ((L ++ xs).length : Int) (lastL 0 (L ++ xs)) v' (rssL (N : Int) (Hp : Int) b cf p (L ++ xs))) ∧ Aside0 (R2 w' w.heap.size (fun q => some q ≠ v'.ownBlock) (.slice A1 T.length c1) T) ∧ Aside0 (Keeps w w' g v.ownBlock) ∧ Aside0 (∀ k, v'.ownBlock = some k → some k = v.ownBlock ∨ w.heap.size ≤ k) := by
  have hsN : (N : Int).toNat = N := by omega
  have hhN : (Hp : Int).toNat = Hp := by omega
  obtain ⟨k1, k2⟩ := cut_step (s := (N : Int)) (h := (Hp : Int)) (b := b) (c := cf) (p := p) (by omega) (by omega) (by omega) L xs
  have hT1 : (cutA (N : Int) (Hp : Int) b cf p (rssL (N : Int) (Hp : Int) b cf p L ++ flatL p (lastL 0 L) xs)).1 = T := by
    rw [hT] at k1
    exact (List.append_cancel_left k1).symm
  have hrl := rssL_len (s := (N : Int)) (h := (Hp : Int)) (b := b) (c := cf) (p := p) (by omega) (by omega) L
  refine (push_go A c n g b0 N Hp (N : Int) (Hp : Int) b cf p (L.length : Int) (lastL 0 L) ((L ++ xs).length : Int) (lastL 0 (L ++ xs)) (rssL (N : Int) (Hp : Int) b cf p L) xs _ (rssL (N : Int) (Hp : Int) b cf p (L ++ xs)) T v w hG hb0 hbw hS hl hC hA hx (last_in hLx) hp rfl hN rfl hH1 hHN hN64 hn (by omega) (by omega) (by omega) rfl hT1 k2.symm (by rw [List.length_append]; omega) (lastL_app 0 L xs).symm).mono ?_
  rintro e w' ⟨vo, v', rfl, h1, h2, h3, h4⟩
  obtain ⟨A1, c1, hvo, hc1, _⟩ := Kd.R_reads h2
  subst hvo
  exact ⟨A1, c1, v', rfl, hc1, ⟨h1⟩, ⟨h2⟩, ⟨h3⟩, ⟨h4⟩⟩
/-- A row of rows that is not the stream's stays what it is. -/
theorem keep_R {α : Type} {d : Kd α} {e base g : Nat} {W W' : World} {v v' va : Value} {T : List α} (h : d.R e W base (fun q => q ≠ g ∧ some q ≠ v.ownBlock) va T) (hK : Keeps W W' g v.ownBlock) (hv : ∀ k, v'.ownBlock = some k → some k = v.ownBlock ∨ W.heap.size ≤ k) :
    d.R e W' base (fun q => q ≠ g ∧ some q ≠ v'.ownBlock) va T := by
  have h1 := Kd.R_mono (Kd.R_bound h) (ok' := fun q => (q ≠ g ∧ some q ≠ v.ownBlock) ∧ q < W.heap.size) (fun q hq => ⟨hq.1, hq.2.2.1⟩)
  refine Kd.R_mono (hK.R h1 (fun q hq => ⟨hq.1.1, hq.1.2⟩)) (fun q hq => ⟨hq.1.1, fun e_ => ?_⟩)
  rcases hv q e_.symm with h2 | h2
  · exact hq.1.2 h2
  · omega
theorem fresh_R {α : Type} {d : Kd α} {e base g : Nat} {W : World} {v' va : Value} {T : List α} (h : d.R e W base (fun q => some q ≠ v'.ownBlock) va T) (hg : g < base) : d.R e W base (fun q => q ≠ g ∧ some q ≠ v'.ownBlock) va T :=
  Kd.R_mono (Kd.R_bound h) (fun q hq => ⟨by omega, hq.1⟩)
theorem wide_R {α : Type} {d : Kd α} {e base g : Nat} {W W' : World} {v va : Value} {T : List α} (h : d.R e W' base (fun _ => True) va T) (hb : W.heap.size ≤ base) (hg : g < W.heap.size) (hv : ∀ k, v.ownBlock = some k → k < W.heap.size) : d.R e W' base (fun q => q ≠ g ∧ some q ≠ v.ownBlock) va T :=
  Kd.R_mono (Kd.R_bound h) (fun q hq => ⟨by omega, fun e_ => by have := hv q e_.symm; omega⟩)
/-- The state after New. -/
theorem st_new {w : World} {g b0 : Nat} {s h b c p : Int} (hs : 1 ≤ s) (H : StrAt w g b0 s h b c p 0 0 (.slice none 0 0) []) : StrAt w g b0 s h b c p (([] : List Int).length : Int) (lastL 0 []) (.slice none 0 0) (rssL s h b c p []) := by
  have e : rssL s h b c p [] = [] := by
    unfold rssL
    rw [show flatL p 0 [] = [] from rfl, cutA_no _ (by show 0 < s.toNat; omega)]
  rw [e]
  exact H

theorem rframes_f (s h b c p n : Int) (hs : 0 ≤ s ∧ s ≤ 1000) (hh : 1 ≤ h) (h0 : 0 ≤ n) (h1 : n ≤ 4611686018427387904) : earshotref13_Frames.f s h b c p n = some (framesI s h n) := by
  unfold earshotref13_Frames.f framesI
  by_cases c1 : n < s
  · rw [if_pos c1, if_pos c1]
  · rw [if_neg c1, if_neg c1, if_neg (by omega)]
    have e1 : wrap64 (n - s) = n - s := by unfold wrap64; omega
    have a0 : 0 ≤ (n - s) / h := Int.ediv_nonneg (by omega) (by omega)
    have a1 : (n - s) / h ≤ n - s := Int.ediv_le_self _ (by omega)
    rw [e1, Int.tdiv_eq_ediv_of_nonneg (by omega)]
    generalize (n - s) / h = q at a0 a1
    rw [show wrap64 q = q by unfold wrap64; omega, show wrap64 (q + 1) = q + 1 by unfold wrap64; omega]

theorem rin_gen (x a b : Int) : earshotref13_in.f x a b = some (decide (a ≤ x) && decide (x ≤ b)) := by
  unfold earshotref13_in.f
  by_cases h1 : x ≥ a
  · rw [if_pos h1, decide_eq_true (show a ≤ x by omega), Bool.true_and]
  · rw [if_neg h1, decide_eq_false (show ¬ a ≤ x by omega), Bool.false_and]
theorem rin_f (x : Int) : earshotref13_in.f x (-65536) 65536 = some (!(badLV x)) := by
  rw [rin_gen]
  unfold badLV
  congr 1
  by_cases h1 : -65536 ≤ x
  · rw [decide_eq_true h1, decide_eq_false (show ¬ x < -65536 by omega)]
    by_cases h2 : x ≤ 65536
    · rw [decide_eq_true h2, decide_eq_false (show ¬ 65536 < x by omega)]; rfl
    · rw [decide_eq_false h2, decide_eq_true (show 65536 < x by omega)]; rfl
  · rw [decide_eq_false h1, decide_eq_true (show x < -65536 by omega)]; rfl
theorem rall_l0 (ys : List Int) (hl : ys.length ≤ 1000) : ∀ (d n k : Nat), n + d = ys.length → d + 1 ≤ k → earshotref13_All.l0 k ys (-65536) 65536 (n : Int) = some (!((ys.drop n).any badLV))
  | 0, n, k, hn, hk => by
    obtain ⟨k, rfl⟩ : ∃ q, k = q + 1 := ⟨k - 1, by omega⟩
    rw [earshotref13_All.l0, if_neg (by omega), List.drop_of_length_le (by omega)]
    rfl
  | d + 1, n, k, hn, hk => by
    obtain ⟨k, rfl⟩ : ∃ q, k = q + 1 := ⟨k - 1, by omega⟩
    have e1 : wrap64 ((n : Int) + 1) = ((n + 1 : Nat) : Int) := by unfold wrap64; omega
    have hd : ys.drop n = ys.getD n 0 :: ys.drop (n + 1) := by
      rw [List.getD_eq_getElem?_getD, List.getElem?_eq_getElem (by omega)]
      exact List.drop_eq_getElem_cons (by omega)
    have ih := rall_l0 ys hl d (n + 1) k (by omega) (by omega)
    rw [earshotref13_All.l0, if_pos (by omega), if_pos (by omega), show rd ys (n : Int) = ys.getD n 0 by unfold rd; rw [Int.toNat_natCast], rin_f, bsome, hd, List.any_cons, e1, ih]
    cases badLV (ys.getD n 0)
    · rw [Bool.not_false, if_pos rfl, Bool.false_or]
    · rw [Bool.not_true, if_neg (by decide)]; rfl
theorem rall_f (ys : List Int) (hl : ys.length ≤ 1000) (k : Nat) (hk : 1001 ≤ k) : earshotref13_All.f k ys (-65536) 65536 = some (lvl ys) := by
  have h := rall_l0 ys hl ys.length 0 k (by omega) (by omega)
  rw [List.drop_zero] at h
  exact h
theorem neededI_in {s h n : Int} (hs : 1 ≤ s) (hh : 1 ≤ h) (hhs : h ≤ s) (h0 : 0 ≤ n) : 0 ≤ neededI s h n ∧ neededI s h n < s := by
  unfold neededI framesI
  split
  · omega
  · have e : ((n - s) / h + 1) * h = (n - s) / h * h + h := by rw [Int.add_mul, Int.one_mul]
    have m := Int.emod_add_mul_ediv (n - s) h
    have m1 := Int.emod_nonneg (n - s) (show h ≠ 0 by omega)
    have m2 := Int.emod_lt_of_pos (n - s) (show 0 < h by omega)
    have m3 : h * ((n - s) / h) = (n - s) / h * h := Int.mul_comm _ _
    omega
theorem rmay_f13 (s h b c p ct lt : Int) (xs : List Int) (hl : xs.length ≤ 1000) (hs : 0 ≤ s ∧ s ≤ 1000) (hh : 1 ≤ h) (hhs : h ≤ s) :
    earshotref13_May.f 2000 s h b c p ct lt xs = some (setOk s h ct lt xs) := by
  unfold earshotref13_May.f
  rw [rin_gen, bsome, rin_gen, bsome, rall_f xs hl 2000 (by omega), bsome]
  by_cases a1 : (0 ≤ ct ∧ ct ≤ 4611686018427387904)
  case neg =>
    have e1 : (decide (0 ≤ ct) && decide (ct ≤ 4611686018427387904)) = false := by rw [Bool.eq_false_iff]; simpa using a1
    rw [e1, if_neg (by decide)]
    unfold setOk
    rw [e1]
    simp
  have e1 : (decide (0 ≤ ct) && decide (ct ≤ 4611686018427387904)) = true := by simpa using a1
  by_cases a2 : (-32768 ≤ lt ∧ lt ≤ 32767)
  case neg =>
    have e2 : (decide (-32768 ≤ lt) && decide (lt ≤ 32767)) = false := by rw [Bool.eq_false_iff]; simpa using a2
    have e3 : (decide (-32768 ≤ lt) && decide (lt < 32768)) = false := by rw [Bool.eq_false_iff]; simp; omega
    rw [e1, if_pos rfl, e2, if_neg (by decide)]
    unfold setOk
    rw [e3]
    simp
  have e2 : (decide (-32768 ≤ lt) && decide (lt ≤ 32767)) = true := by simpa using a2
  have e3 : (decide (-32768 ≤ lt) && decide (lt < 32768)) = true := by simp; omega
  rw [e1, if_pos rfl, e2, if_pos rfl]
  cases hv : lvl xs
  · rw [if_neg (by decide)]
    unfold setOk
    rw [hv]
    simp
  rw [if_pos rfl]
  have f1 := rframes_f s h b c p ct hs hh a1.1 a1.2
  have f2 := framesI_mul (s := s) (h := h) (n := ct) hs.1 hh hhs a1.1
  have f3 : wrap64 (ct - wrap64 (framesI s h ct * h)) = neededI s h ct := by
    unfold neededI
    generalize framesI s h ct * h = q at f2
    unfold wrap64; omega
  by_cases z0 : ct = 0
  · rw [if_pos z0]
    by_cases z1 : lt = 0
    · rw [if_pos z1, f1, bsome, f3]
      unfold setOk
      rw [e1, e3, hv, decide_eq_true z1]
      rw [show ((xs.length : Int) == neededI s h ct) = decide ((xs.length : Int) = neededI s h ct) from rfl]
      simp
    · rw [if_neg z1]
      unfold setOk
      rw [decide_eq_true z0, decide_eq_false z1]
      simp
  · rw [if_neg z0, f1, bsome, f3]
    unfold setOk
    rw [e1, e3, hv, decide_eq_false z0]
    rw [show ((xs.length : Int) == neededI s h ct) = decide ((xs.length : Int) = neededI s h ct) from rfl]
    simp

theorem cell_far {W : World} {a b : Addr} {v u : Value} (hne : a ≠ b) (h : W.cell? b = some v) : (W.setCell a u).cell? b = some v := by
  rw [World.cell?_setCell_other]
  · exact h
  · exact hne
def fill3 (W : World) (g : Nat) (a0 a1 a2 : Value) : World := ((W.setCell ⟨g, 0, none⟩ a0).setCell ⟨g, 1, none⟩ a1).setCell ⟨g, 2, none⟩ a2
theorem fill3_at {W : World} {g t : Nat} {b0 b1 b2 : Value} (h : W.heap[g]? = some (.cells #[b0, b1, b2] t (0, 0))) (a0 a1 a2 : Value) : (fill3 W g a0 a1 a2).heap[g]? = some (.cells #[a0, a1, a2] t (0, 0)) :=
  (blk_set (blk_set (blk_set h 0 a0) 1 a1) 2 a2).trans rfl
theorem fill3_far {W : World} {g k : Nat} {o : Obj} (h : W.heap[k]? = some o) (hne : k ≠ g) (a0 a1 a2 : Value) : (fill3 W g a0 a1 a2).heap[k]? = some o :=
  blk_far (blk_far (blk_far h hne _) hne _) hne _
theorem fill3_below {w W : World} {g : Nat} (h : Below w.heap.size w W) (hg : w.heap.size ≤ g) (a0 a1 a2 : Value) : Below w.heap.size w (fill3 W g a0 a1 a2) :=
  below_set (below_set (below_set h hg) hg) hg
theorem fill3_R {W : World} {g base : Nat} {ok : Nat → Prop} {v : Value} {xs : List Int} (h : (Kd.int .i64).R 3 W base ok v xs) (hok : ∀ q, ok q → q ≠ g) (a0 a1 a2 : Value) : (Kd.int .i64).R 3 (fill3 W g a0 a1 a2) base ok v xs :=
  Kd.R_far (Kd.R_far (Kd.R_far h (p := ⟨g, 0, none⟩) hok _) (p := ⟨g, 1, none⟩) hok _) (p := ⟨g, 2, none⟩) hok _
theorem made_R (W : World) (base m : Nat) (ok : Nat → Prop) (hb : base ≤ W.heap.size) (hm : m ≤ 1000) (hok : ok W.heap.size) : (Kd.int .i64).R 3 (W.alloc (.cells (madeCells #[.int .i64 0] m) 3)) base ok (.slice (some ⟨W.heap.size, 0, none⟩) m m) (List.replicate m 0) :=
  Kd.R_of_own (enc := Value.int .i64) (h1 := fun _ => rfl) (xs := List.replicate m (0 : Int)) (own_made' W base 3 .i64 m hb (by omega)) (fun k hk => by
    have e : W.heap.size = k := by simpa [Value.ownBlock] using hk
    rw [← e]; exact hok)
theorem StrAt.far {W : World} {g b0 g' : Nat} {s h b c p cnt last : Int} {v : Value} {rest : List Int} (H : StrAt W g b0 s h b c p cnt last v rest) (hg : g ≠ g') (hv : some g' ≠ v.ownBlock) (a0 a1 a2 : Value) : StrAt (fill3 W g' a0 a1 a2) g b0 s h b c p cnt last v rest :=
  ⟨fill3_far H.1 hg _ _ _, H.2.1, Kd.R_mono (fill3_R (Kd.R_tight rfl H.2.2) (fun q hq e => by
    have h1 : some q = v.ownBlock := hq
    rw [e] at h1
    exact hv h1) _ _ _) (fun _ _ => trivial)⟩
/-- What stands between the statements: the flags, the front and the tail that is made ready. -/
def TSt (w W : World) (g5 g8 g9 : Nat) (k0 k1 k2 : Bool) (s h b c p ct lt : Int) (v : Value) (xs : List Int) : Prop :=
  Below w.heap.size w W ∧ W.heap[g5]? = some (.cells #[.bool k0, .bool k1, .bool k2] 64 (0, 0)) ∧ W.heap[g8]? = some (.cells #[.int .i64 s, .int .i64 h, .int .i64 b, .int .i64 c, .int .i64 p] 39 (0, 0)) ∧
    W.heap[g9]? = some (.cells #[.int .i64 ct, .int .i64 lt, v] 60 (0, 0)) ∧ (Kd.int .i64).R 3 W w.heap.size (fun q => q ≠ g9 ∧ q ≠ g8 ∧ q ≠ g5) v xs
theorem TSt.set0 {w W : World} {g5 g8 g9 : Nat} {k0 k1 k2 : Bool} {s h b c p ct lt : Int} {v : Value} {xs : List Int} (H : TSt w W g5 g8 g9 k0 k1 k2 s h b c p ct lt v xs) (hg : w.heap.size ≤ g9) (h5 : g5 ≠ g9) (h8 : g8 ≠ g9) (ct' : Int) :
    TSt w (W.setCell ⟨g9, 0, none⟩ (.int .i64 ct')) g5 g8 g9 k0 k1 k2 s h b c p ct' lt v xs :=
  ⟨below_set H.1 hg, blk_far H.2.1 h5 _, blk_far H.2.2.1 h8 _, (blk_set H.2.2.2.1 0 _).trans rfl, Kd.R_far H.2.2.2.2 (p := ⟨g9, 0, none⟩) (fun q hq => hq.1) _⟩
theorem TSt.below {w W W1 : World} {g5 g8 g9 : Nat} {k0 k1 k2 : Bool} {s h b c p ct lt : Int} {v : Value} {xs : List Int} (H : TSt w W g5 g8 g9 k0 k1 k2 s h b c p ct lt v xs) (hb : Below W.heap.size W W1) : TSt w W1 g5 g8 g9 k0 k1 k2 s h b c p ct lt v xs :=
  ⟨below_step H.1 hb, blk_below H.2.1 hb, blk_below H.2.2.1 hb, blk_below H.2.2.2.1 hb, Kd.R_below H.2.2.2.2 hb⟩
/-- A new row goes into the tail. -/
theorem TSt.set2 {w W : World} {g5 g8 g9 : Nat} {k0 k1 k2 : Bool} {s h b c p ct lt : Int} {v v' : Value} {xs xs' : List Int} (H : TSt w W g5 g8 g9 k0 k1 k2 s h b c p ct lt v xs) (hg : w.heap.size ≤ g9) (h5 : g5 ≠ g9) (h8 : g8 ≠ g9) (hR : (Kd.int .i64).R 3 W w.heap.size (fun q => q ≠ g9 ∧ q ≠ g8 ∧ q ≠ g5) v' xs') :
    TSt w (W.setCell ⟨g9, 2, none⟩ v') g5 g8 g9 k0 k1 k2 s h b c p ct lt v' xs' :=
  ⟨below_set H.1 hg, blk_far H.2.1 h5 _, blk_far H.2.2.1 h8 _, (blk_set H.2.2.2.1 2 _).trans rfl, Kd.R_far hR (p := ⟨g9, 2, none⟩) (fun q hq => hq.1) _⟩
theorem TSt.own {w W : World} {g5 g8 g9 : Nat} {k0 k1 k2 : Bool} {s h b c p ct lt : Int} {v : Value} {xs : List Int} (H : TSt w W g5 g8 g9 k0 k1 k2 s h b c p ct lt v xs) : some g9 ≠ v.ownBlock ∧ some g8 ≠ v.ownBlock ∧ some g5 ≠ v.ownBlock :=
  ⟨fun e => (H.2.2.2.2.1 g9 e.symm).1 rfl, fun e => (H.2.2.2.2.1 g8 e.symm).2.1 rfl, fun e => (H.2.2.2.2.1 g5 e.symm).2.2 rfl⟩
theorem TSt.put {w W w1 : World} {g5 g8 g9 : Nat} {k0 k1 k2 : Bool} {s h b c p ct lt : Int} {v v1 : Value} {xs xs1 : List Int} (H : TSt w W g5 g8 g9 k0 k1 k2 s h b c p ct lt v xs) (hG : W.grownBy w1 v.ownBlock) (hb : Below w.heap.size w w1) (hg : w.heap.size ≤ g9) (h5 : g5 ≠ g9) (h8 : g8 ≠ g9)
    (hR : (Kd.int .i64).R 3 w1 w.heap.size (fun q => q ≠ g9 ∧ q ≠ g8 ∧ q ≠ g5) v1 xs1) : TSt w (w1.setCell ⟨g9, 2, none⟩ v1) g5 g8 g9 k0 k1 k2 s h b c p ct lt v1 xs1 :=
  ⟨below_set hb hg, blk_far (blk_grown H.2.1 hG H.own.2.2) h5 _, blk_far (blk_grown H.2.2.1 hG H.own.2.1) h8 _, (blk_set (blk_grown H.2.2.2.1 hG H.own.1) 2 _).trans rfl, Kd.R_far hR (p := ⟨g9, 2, none⟩) (fun q hq => hq.1) _⟩
theorem set_size (W : World) (a : Addr) (u : Value) : (W.setCell a u).heap.size = W.heap.size := by simp [World.setCell]
theorem TSt.made {w W : World} {g5 g8 g9 : Nat} {k0 k1 k2 : Bool} {s h b c p ct lt : Int} {v : Value} {xs : List Int} (H : TSt w W g5 g8 g9 k0 k1 k2 s h b c p ct lt v xs) (hg : w.heap.size ≤ g9) (h5 : g5 ≠ g9) (h8 : g8 ≠ g9) (m : Nat) (hm : m ≤ 1000) :
    TSt w ((W.setCell ⟨g9, 2, none⟩ (.slice (some ⟨W.heap.size, 0, none⟩) m m)).alloc (.cells (madeCells #[.int .i64 0] m) 3)) g5 g8 g9 k0 k1 k2 s h b c p ct lt (.slice (some ⟨W.heap.size, 0, none⟩) m m) (List.replicate m 0) := by
  have k9 := blk_lt H.2.2.2.1
  have k8 := blk_lt H.2.2.1
  have k5 := blk_lt H.2.1
  have hs := set_size W ⟨g9, 2, none⟩ (.slice (some ⟨W.heap.size, 0, none⟩) m m)
  have hb := below_alloc (Below.refl (W.setCell ⟨g9, 2, none⟩ (.slice (some ⟨W.heap.size, 0, none⟩) m m)).heap.size (W.setCell ⟨g9, 2, none⟩ (.slice (some ⟨W.heap.size, 0, none⟩) m m))) (.cells (madeCells #[.int .i64 0] m) 3)
  have hR := made_R (W.setCell ⟨g9, 2, none⟩ (.slice (some ⟨W.heap.size, 0, none⟩) m m)) w.heap.size m (fun q => q ≠ g9 ∧ q ≠ g8 ∧ q ≠ g5) (by rw [hs]; exact H.1.size) hm (by rw [hs]; exact ⟨by omega, by omega, by omega⟩)
  rw [hs] at hR
  exact ⟨below_step (below_set H.1 hg) hb, blk_below (blk_far H.2.1 h5 _) hb, blk_below (blk_far H.2.2.1 h8 _) hb, blk_below ((blk_set H.2.2.2.1 2 _).trans rfl) hb, hR⟩
def earshotlaw13_FrontTails.f (a0_0 a0_1 a0_2 : Int) (a0_3 a0_4 : Bool) (a1 : Int) (a2_0 a2_1 a2_2 : Bool) : Option (Bool) := if decide (-9223372036854775808 ≤ a1) && decide (a1 ≤ 9223372036854775807) then some true else none
set_option maxHeartbeats 200000000 in
set_option maxRecDepth 100000 in
theorem tails_go (x y z ct0 : Int) (a d k0 k1 k2 : Bool) (w : World) (hG : GlobA w) (hct : -9223372036854775808 ≤ ct0 ∧ ct0 ≤ 9223372036854775807) :
    Calls Tryd.prog 12 #[.agg #[.int .i64 x, .int .i64 y, .int .i64 z, .bool a, .bool d], .int .i64 ct0, .agg #[.bool k0, .bool k1, .bool k2]] w fun e w' => e = .returned (.bool true) ∧ Below w.heap.size w w' := by
  have hu39 := Tryd.underlying39
  have hu41 := Tryd.underlying41
  have hu60 := Tryd.underlying60
  have hu64 := Tryd.underlying64
  have hu22 := Tryd.underlying22
  obtain ⟨N, hN⟩ : ∃ N : Nat, (N : Int) = specS a := ⟨(specS a).toNat, by cases a <;> decide⟩
  have hN1 : N = 16 ∨ N = 32 := by
    have : specS a = 16 ∨ specS a = 32 := by cases a <;> decide
    omega
  have hsr := spec_right x y z a d
  have hsp := spec_go x y z a d
  rw [← hN] at hsr hsp
  have hx0 := Int.emod_nonneg x (show (N : Int) ≠ 0 by omega)
  have hx1 := Int.emod_lt_of_pos x (show 0 < (N : Int) by omega)
  obtain ⟨Hp, hHp⟩ : ∃ H : Nat, (H : Int) = 1 + x % (N : Int) := ⟨(1 + x % (N : Int)).toNat, by omega⟩
  rw [← hHp] at hsr hsp
  have hH1 : 1 ≤ Hp := by omega
  have hHN : Hp ≤ N := by omega
  have hp0 := Int.emod_nonneg z (show (32768 : Int) ≠ 0 by decide)
  have hp1 := Int.emod_lt_of_pos z (show (0 : Int) < 32768 by decide)
  generalize specB d = b2 at hsr hsp
  generalize 1 + y % b2 = c2 at hsr hsp
  generalize z % 32768 = p2 at hsr hsp hp0 hp1
  have HSP : Aside0 (∀ W : World, Calls Tryd.prog 23 #[.agg #[.int .i64 x, .int .i64 y, .int .i64 z, .bool a, .bool d]] W fun e w' => e = .returned (.agg #[.int .i64 (N : Int), .int .i64 (Hp : Int), .int .i64 b2, .int .i64 c2, .int .i64 p2]) ∧ Below W.heap.size W w') := ⟨hsp⟩
  have HR2 := Aside0.mk hsr
  have HPP := Aside0.mk (And.intro hp0 hp1)
  have hN2 : N ≤ 32 := by omega
  have hN3 : 16 ≤ N := by omega
  have HG0 := Aside0.mk hG
  have HCT := Aside0.mk hct
  obtain ⟨sh, hsh⟩ : ∃ q, ct0 / 1099511627776 = q := ⟨_, rfl⟩
  have hsh1 : -8388608 ≤ sh ∧ sh ≤ 8388607 := by omega
  have HSH := Aside0.mk hsh1
  clear hsr hsp hG hN hN1 hx0 hx1 hHp hp0 hp1 hsh1
  have ST0 : True := trivial
  go_enter Tryd.func12, Tryd.ntmps12
  go_upto_region 3 with (first
    | ((with_reducible refine gate_dst (N := 3) rfl ?_); refine box_event ?hg (N := 3) ?hd (cs := #[.int .i64 x, .int .i64 y, .int .i64 z, .bool a, .bool d]) (t := 41) ?hr ?_; (case hd => rfl); (case hg => first | rfl | exact wanted_on rfl rfl rfl (by first | assumption | rfl | (simp [*]; done))); (case hr => first | (go_simp; done) | (go_simp; rfl)); intro g3 hg3 w1 hbox hb; have B3 := Aside0.mk hbox; have HB1 := Aside0.mk hb; have hgl3 : w.heap.size ≤ g3 := (by omega); clear ST0 hbox hb hg3; have ST1 : True := trivial)
    | ((with_reducible refine gate_dst (N := 5) rfl ?_); refine box_event ?hg (N := 5) ?hd (cs := #[.bool k0, .bool k1, .bool k2]) (t := 64) ?hr ?_; (case hd => rfl); (case hg => first | rfl | exact wanted_on rfl rfl rfl (by first | assumption | rfl | (simp [*]; done))); (case hr => first | (go_simp; done) | (go_simp; rfl)); intro g5 hg5 w2 hbox hb; have B5 := Aside0.mk hbox; have HB2 := Aside0.mk (below_step HB1.out hb); have B3n := Aside0.mk (blk_below B3.out hb); clear ST1 hbox hb hg5 HB1 B3; have B3 := B3n; clear B3n; have ST2 : True := trivial)
    | (go_at_call 22; clear ST2; (with_reducible refine (awake_go _ (HG0.out.below HB2.out)).mono ?_); rintro e_ w3 ⟨rfl, hb⟩; have HB3 := Aside0.mk (below_step HB2.out hb); have B3n := Aside0.mk (blk_below B3.out hb); have B5n := Aside0.mk (blk_below B5.out hb); clear hb HB2 B3 B5; have B3 := B3n; have B5 := B5n; clear B3n B5n; have q0 := blk_cell B3.out 0; have q1 := blk_cell B3.out 1; have q2 := blk_cell B3.out 2; have q3 := blk_cell B3.out 3; have q4 := blk_cell B3.out 4; have ST3 : True := trivial)
    | (go_at_call 23; clear ST3; (with_reducible refine (HSP.out _).mono ?_); rintro e_ w4 ⟨rfl, hb⟩; have HB4 := Aside0.mk (below_step HB3.out hb); have B5n := Aside0.mk (blk_below B5.out hb); clear hb HB3 B3 B5 q0 q1 q2 q3 q4; have B5 := B5n; clear B5n; have ST4 : True := trivial)
    | ((with_reducible refine gate_dst (N := 8) rfl ?_); refine box_event ?hg (N := 8) ?hd (cs := #[.int .i64 0, .int .i64 0, .int .i64 0, .int .i64 0, .int .i64 0]) (t := 39) ?hr ?_; (case hd => rfl); (case hg => first | rfl | exact wanted_on rfl rfl rfl (by first | assumption | rfl | (simp [*]; done))); (case hr => first | (go_simp; done) | (go_simp; rfl)); intro g8 hg8 w5 hbox hb; have B8 := Aside0.mk hbox; have HB5 := Aside0.mk (below_step HB4.out hb); have B5n := Aside0.mk (blk_below B5.out hb); have hgl8 : w.heap.size ≤ g8 := (by rw [hg8]; exact HB4.out.size); have hne8 : g5 ≠ g8 := (by rw [hg8]; exact Nat.ne_of_lt (blk_lt B5.out)); clear ST4 hbox hb hg8 HB4 B5; have B5 := B5n; clear B5n; have q0 := blk_cell B8.out 0; have q1 := blk_cell B8.out 1; have q2 := blk_cell B8.out 2; have q3 := blk_cell B8.out 3; have q4 := blk_cell B8.out 4;have f0 := blk_frozen B8.out 0; have f1 := blk_frozen B8.out 1; have f2 := blk_frozen B8.out 2; have f3 := blk_frozen B8.out 3; have f4 := blk_frozen B8.out 4; have ST5 : True := trivial))
  obtain ⟨w6, hw6⟩ : ∃ W, fill5 w5 g8 (.int .i64 (N : Int)) (.int .i64 (Hp : Int)) (.int .i64 b2) (.int .i64 c2) (.int .i64 p2) = W := ⟨_, rfl⟩
  have B8n := Aside0.mk (hw6 ▸ fill5_at B8.out (.int .i64 (N : Int)) (.int .i64 (Hp : Int)) (.int .i64 b2) (.int .i64 c2) (.int .i64 p2))
  have B5n := Aside0.mk (hw6 ▸ fill5_far (g := g8) B5.out hne8 (.int .i64 (N : Int)) (.int .i64 (Hp : Int)) (.int .i64 b2) (.int .i64 c2) (.int .i64 p2))
  have HB6 := Aside0.mk (hw6 ▸ fill5_below HB5.out hgl8 (.int .i64 (N : Int)) (.int .i64 (Hp : Int)) (.int .i64 b2) (.int .i64 c2) (.int .i64 p2))
  unfold fill5 at hw6
  rw [hw6]
  clear hw6 B8 B5 HB5 q0 q1 q2 q3 q4 f0 f1 f2 f3 f4 hne8
  go_upto_region 4 with (first
    | ((with_reducible refine gate_dst (N := 9) rfl ?_); refine box_event ?hg (N := 9) ?hd (cs := #[.int .i64 0, .int .i64 0, .slice none 0 0]) (t := 60) ?hr ?_; (case hd => rfl); (case hg => first | rfl | exact wanted_on rfl rfl rfl (by first | assumption | rfl | (simp [*]; done))); (case hr => first | (go_simp; done) | (go_simp; rfl)); intro g9 hg9 w7 hbox hb; have B9 := Aside0.mk hbox; have HB7 := Aside0.mk (below_step HB6.out hb); have B5 := Aside0.mk (blk_below B5n.out hb); have B8 := Aside0.mk (blk_below B8n.out hb); have hgl9 : w.heap.size ≤ g9 := (by rw [hg9]; exact HB6.out.size); have hn59 : g5 ≠ g9 := (by rw [hg9]; exact Nat.ne_of_lt (blk_lt B5n.out)); have hn89 : g8 ≠ g9 := (by rw [hg9]; exact Nat.ne_of_lt (blk_lt B8n.out)); clear ST5 hbox hb hg9 HB6 B5n B8n; have q0 := blk_cell B9.out 0; have q1 := blk_cell B9.out 1; have q2 := blk_cell B9.out 2;have f0 := blk_frozen B9.out 0; have f1 := blk_frozen B9.out 1; have f2 := blk_frozen B9.out 2; have ST6 : True := trivial))
  obtain ⟨w8, hw8⟩ : ∃ W, fill3 w7 g9 (.int .i64 ct0) (.int .i64 sh) (.slice none 0 0) = W := ⟨_, rfl⟩
  have HS : Aside0 (TSt w w8 g5 g8 g9 k0 k1 k2 (N : Int) (Hp : Int) b2 c2 p2 ct0 sh (.slice none 0 0) []) := ⟨hw8 ▸ ⟨fill3_below HB7.out hgl9 _ _ _, fill3_far B5.out hn59 _ _ _, fill3_far B8.out hn89 _ _ _, fill3_at B9.out _ _ _, Kd.R_nil _ _ _ _ _⟩⟩
  unfold fill3 at hw8
  rw [hw8]
  have hr1 : ∃ r, Int.tmod ct0 60 = r ∧ -60 < r ∧ r < 60 := ⟨_, rfl, by have h1 := Int.natAbs_tmod ct0 60; have h2 := Nat.mod_lt ct0.natAbs (show 0 < (60 : Int).natAbs by decide); have h3 : (60 : Int).natAbs = 60 := rfl; rw [h3] at h1 h2; omega, by have h1 := Int.natAbs_tmod ct0 60; have h2 := Nat.mod_lt ct0.natAbs (show 0 < (60 : Int).natAbs by decide); have h3 : (60 : Int).natAbs = 60 := rfl; rw [h3] at h1 h2; omega⟩
  obtain ⟨r1, m1, m2, m3⟩ := hr1
  have hr3 : ∃ r, Int.tmod (r1 + 60) 60 = r ∧ 0 ≤ r ∧ r < 60 := ⟨_, rfl, Int.tmod_nonneg _ (by omega), Int.tmod_lt_of_pos _ (by decide)⟩
  obtain ⟨r3, m4, m5, m6⟩ := hr3
  have x1 : IntKind.i64.wrap r1 = r1 := by rw [IntKind.wrap_i64]; omega
  have x2 : IntKind.i64.wrap (r1 + 60) = r1 + 60 := by rw [IntKind.wrap_i64]; omega
  have x3 : IntKind.i64.wrap r3 = r3 := by rw [IntKind.wrap_i64]; omega
  clear hw8 B9 B8 B5 HB7 q0 q1 q2 f0 f1 f2
  have B5 := Aside0.mk HS.out.2.1
  have B9 := Aside0.mk HS.out.2.2.2.1
  have p0 := blk_cell B5.out 0
  have p1 := blk_cell B5.out 1
  have p2c := blk_cell B5.out 2
  have q0 := blk_cell B9.out 0
  have f0 := blk_frozen B9.out 0
  go_upto_if 25 with fail
  go_cut [] from 17 (fun W => ∃ ct, -9223372036854775808 ≤ ct ∧ ct ≤ 9223372036854775807 ∧ Aside0 (TSt w W g5 g8 g9 k0 k1 k2 (N : Int) (Hp : Int) b2 c2 p2 ct sh (.slice none 0 0) []))
  case first => as_aux_lemma =>
    obtain ⟨hc0, hc1⟩ := HCT.out
    cases k0
    · go_wp2_with fail
      go_meet
      case rel => exact ⟨ct0, hc0, hc1, HS⟩
    · go_wp2_with fail
      go_meet
      case rel => exact ⟨r3, by omega, by omega, ⟨HS.out.set0 hgl9 hn59 hn89 r3⟩⟩
  case rest =>
    clear p0 p1 p2c q0 f0 B5 B9 HS m1 m2 m3 m4 m5 m6 x1 x2 x3 hsh
    obtain ⟨ct, hc0, hc1, HS⟩ := hcut
    obtain ⟨cb, hcb⟩ : ∃ q, (decide (0 < ct) && decide (ct ≤ 4611686018427387904)) = q := ⟨_, rfl⟩
    have HCB := Aside0.mk hcb
    clear hcb
    have B9 := Aside0.mk HS.out.2.2.2.1
    have q0 := blk_cell B9.out 0
    go_upto_region 6 with fail
    go_cut [38] from 17 (fun v W => v = .bool cb ∧ W = wc)
    case first => as_aux_lemma =>
      by_cases y0 : 0 < ct
      · by_cases y1 : ct ≤ 4611686018427387904
        · have e : cb = true := by rw [← HCB.out, decide_eq_true y0, decide_eq_true y1]; rfl
          subst e
          go_wp2_with fail
          go_meet
          case rel => exact ⟨rfl, rfl⟩
        · have e : cb = false := by rw [← HCB.out, decide_eq_true y0, decide_eq_false y1]; rfl
          subst e
          go_wp2_with fail
          go_meet
          case rel => exact ⟨rfl, rfl⟩
      · have e : cb = false := by rw [← HCB.out, decide_eq_false y0]; rfl
        subst e
        go_wp2_with fail
        go_meet
        case rel => exact ⟨rfl, rfl⟩
    case rest =>
    clear q0 B9
    obtain ⟨rfl, hw_⟩ := hcut
    replace hw_ := hw_.symm
    subst hw_
    go_upto_if 38 with fail
    go_cut [] from 17 (fun W => ∃ v xs, xs.length ≤ 100 ∧ Aside0 (TSt w W g5 g8 g9 k0 k1 k2 (N : Int) (Hp : Int) b2 c2 p2 ct sh v xs))
    case first => as_aux_lemma =>
      cases cb
      · go_wp2_with fail
        go_meet
        case rel => exact ⟨_, [], by decide, HS⟩
      · have hcb := HCB.out
        rw [Bool.and_eq_true, decide_eq_true_eq, decide_eq_true_eq] at hcb
        obtain ⟨y0, y1⟩ := hcb
        have hnd := neededI_in (s := (N : Int)) (h := (Hp : Int)) (n := ct) (by omega) (by omega) (by omega) (by omega)
        have hfm := framesI_mul (s := (N : Int)) (h := (Hp : Int)) (n := ct) (by omega) (by omega) (by omega) (by omega)
        obtain ⟨fr, hfr⟩ : ∃ q, framesI (N : Int) (Hp : Int) ct = q := ⟨_, rfl⟩
        obtain ⟨u, hu⟩ : ∃ q, fr * (Hp : Int) = q := ⟨_, rfl⟩
        have HFR : Aside0 (∀ W : World, Calls Tryd.prog 32 #[.agg #[.int .i64 (N : Int), .int .i64 (Hp : Int), .int .i64 b2, .int .i64 c2, .int .i64 p2], .int .i64 ct] W fun e w' => e = .returned (.int .i64 fr) ∧ Aside0 (Below W.heap.size W w')) := ⟨fun W => (earshotref13_Frames.calls _ _ _ _ _ _ fr W (by rw [← hfr]; exact rframes_f _ _ _ _ _ ct ⟨by omega, by omega⟩ (by omega) (by omega) y1)).mono fun e w' ⟨k, q⟩ => ⟨k, ⟨q⟩⟩⟩
        unfold neededI at hnd
        rw [hfr, hu] at hfm hnd
        obtain ⟨m, hm⟩ : ∃ m : Nat, (m : Int) = ct - u := ⟨(ct - u).toNat, by omega⟩
        have hm1 : m ≤ 40 := by omega
        have x1 : IntKind.i64.wrap (fr * (Hp : Int)) = u := by rw [hu, IntKind.wrap_i64]; omega
        have x2 : IntKind.i64.wrap (ct - u) = (m : Int) := by rw [← hm, IntKind.wrap_i64]; omega
        have hmk := print_make 22 3 .i64 8 Tryd.underlying22 turn_info (by decide) m (by omega)
        have B8 := Aside0.mk HS.out.2.2.1
        have B9 := Aside0.mk HS.out.2.2.2.1
        have hg9w : g9 < wc.heap.size := blk_lt B9.out
        have hg8w : g8 < wc.heap.size := blk_lt B8.out
        have hg5w : g5 < wc.heap.size := blk_lt HS.out.2.1
        have q0 := blk_cell B9.out 0
        have q2 := blk_cell B9.out 2
        have f2 := blk_frozen B9.out 2
        have r0 := blk_cell B8.out 0
        have r1 := blk_cell B8.out 1
        have r2 := blk_cell B8.out 2
        have r3 := blk_cell B8.out 3
        have r4 := blk_cell B8.out 4
        clear hfr hu hfm hnd hm
        go_wp2
        go_region_law (first
          | (go_simp; go_at_call 32; (with_reducible refine (HFR.out _).mono ?_); rintro e_ wf ⟨rfl, B1⟩; have hb := below_then (show Below wc.heap.size wc _ by repeat (first | exact Below.refl _ _ | apply below_alloc | apply pw_below_drewN | apply below_drew1)) (by simp) B1.out; have HSf := Aside0.mk (HS.out.below hb); clear hb B1 q0 q2 f2 r0 r1 r2 r3 r4; have B8f := Aside0.mk HSf.out.2.2.1; have B9f := Aside0.mk HSf.out.2.2.2.1; have hg9f : g9 < wf.heap.size := blk_lt B9f.out; have hg8f : g8 < wf.heap.size := blk_lt B8f.out; have hg5f : g5 < wf.heap.size := blk_lt HSf.out.2.1; have q0 := blk_cell B9f.out 0; have q2 := blk_cell B9f.out 2; have f2 := blk_frozen B9f.out 2; have r0 := blk_cell B8f.out 0; have r1 := blk_cell B8f.out 1; have r2 := blk_cell B8f.out 2; have r3 := blk_cell B8f.out 3; have r4 := blk_cell B8f.out 4))
        all_goals
          go_wp2_with fail
          go_meet
          case rel => exact ⟨_, List.replicate m 0, by rw [List.length_replicate]; omega, ⟨TSt.made HSf.out hgl9 hn59 hn89 m (by omega)⟩⟩
    case rest =>
    clear HS HCB hc0 hc1
    obtain ⟨v, xs, hxl, HS⟩ := hcut
    obtain ⟨Av, cv, hv, hvc, _⟩ := Kd.R_reads HS.out.2.2.2.2
    subst hv
    have B5 := Aside0.mk HS.out.2.1
    have B9 := Aside0.mk HS.out.2.2.2.1
    have hg9w : g9 < wc.heap.size := blk_lt B9.out
    have hg8w : g8 < wc.heap.size := blk_lt HS.out.2.2.1
    have hg5w : g5 < wc.heap.size := blk_lt B5.out
    have p0 := blk_cell B5.out 0
    have p1 := blk_cell B5.out 1
    have p2c := blk_cell B5.out 2
    have q2 := blk_cell B9.out 2
    go_upto_if 52 with fail
    go_cut [] from 17 (fun W => ∃ v xs, xs.length ≤ 101 ∧ Aside0 (TSt w W g5 g8 g9 k0 k1 k2 (N : Int) (Hp : Int) b2 c2 p2 ct sh v xs))
    case first => as_aux_lemma =>
      cases k1
      · go_wp2_with fail
        go_meet
        case rel => exact ⟨_, xs, by omega, HS⟩
      · have HRa := Aside0.mk (Kd.R_alloc HS.out.2.2.2.2 (.cells #[.int .i64 0] 3))
        have HLC := Aside0.mk (lit_c wc [0])
        have hba := Aside0.mk (below_step HS.out.1 (below_alloc (Below.refl wc.heap.size wc) (.cells #[.int .i64 0] 3)))
        have HSa := Aside0.mk (HS.out.below (below_alloc (Below.refl wc.heap.size wc) (.cells #[.int .i64 0] 3)))
        clear hvc
        go_wp2_with (first
          | ((with_reducible refine gate_builtin (b := .append) (xs := #[.tmp 54, .tmp 55]) rfl ?_); at_builtin; refine Kd.R_append_row (Value.int .i64) (0 : Int) (h1 := fun _ => rfl) (w0 := w) w.heap.size rfl (.tmp 54) (.tmp 55) 22 3 (.int .i64 0) 8 rfl Tryd.underlying22 turn_info rfl (by decide) (.slice Av xs.length cv) xs [0] (some ⟨wc.heap.size, 0, none⟩) 1 1 (fun q => q ≠ g9 ∧ q ≠ g8 ∧ q ≠ g5) rfl rfl ?hfr HRa.out HLC.out hba.out ?hbs (by omega) ?_; (case hfr => exact fun k hk => by simp at hk; exact ⟨by omega, by omega, by omega⟩); (case hbs => exact hba.out.size); intro v1 w1 h1 h2 h3 h4; obtain ⟨A1, c1, hv1, _, _⟩ := Kd.R_reads h1; rw [show (xs ++ [(0 : Int)]).length = xs.length + 1 by simp] at hv1; subst hv1; have HV1 := Aside0.mk h1; have HB1 := Aside0.mk h2; have HG1 := Aside0.mk h3; have B9g := Aside0.mk (blk_grown HSa.out.2.2.2.1 h3 HSa.out.own.1); clear h1 h2 h3 h4; have q2g := blk_cell B9g.out 2; have f2g := blk_frozen B9g.out 2))
        go_meet
        case rel => exact ⟨_, xs ++ [0], by rw [List.length_append]; simp; omega, ⟨HSa.out.put HG1.out HB1.out hgl9 hn59 hn89 HV1.out⟩⟩
    case rest =>
    clear HS B5 B9 hg9w hg8w hg5w p0 p1 p2c q2 hxl hvc
    obtain ⟨v, xs, hxl, HS⟩ := hcut
    obtain ⟨Av, cv, hv, hvc, _⟩ := Kd.R_reads HS.out.2.2.2.2
    subst hv
    have B5 := Aside0.mk HS.out.2.1
    have B9 := Aside0.mk HS.out.2.2.2.1
    have p0 := blk_cell B5.out 0
    have p1 := blk_cell B5.out 1
    have p2c := blk_cell B5.out 2
    have q2 := blk_cell B9.out 2
    obtain ⟨cb, hcb⟩ : ∃ q, (k2 && decide (0 < xs.length)) = q := ⟨_, rfl⟩
    have HCB := Aside0.mk hcb
    clear hcb
    go_upto_region 10 with fail
    go_cut [65] from 17 (fun u W => u = .bool cb ∧ W = wc)
    case first => as_aux_lemma =>
      cases k2
      · have e : cb = false := by rw [← HCB.out]; rfl
        subst e
        go_wp2_with fail
        go_meet
        case rel => exact ⟨rfl, rfl⟩
      · by_cases y0 : 0 < xs.length
        · have e : cb = true := by rw [← HCB.out, decide_eq_true y0]; rfl
          have y1 : (0 : Int) < (xs.length : Int) := by omega
          subst e
          go_wp2_with fail
          go_meet
          case rel => exact ⟨rfl, rfl⟩
        · have e : cb = false := by rw [← HCB.out, decide_eq_false y0]; rfl
          have y1 : ¬ (0 : Int) < (xs.length : Int) := by omega
          subst e
          go_wp2_with fail
          go_meet
          case rel => exact ⟨rfl, rfl⟩
    case rest =>
    clear p0 p1 p2c q2
    obtain ⟨rfl, hw_⟩ := hcut
    replace hw_ := hw_.symm
    subst hw_
    go_upto_if 65 with fail
    go_cut [] from 17 (fun W => ∃ v xs, xs.length ≤ 101 ∧ Aside0 (TSt w W g5 g8 g9 k0 k1 k2 (N : Int) (Hp : Int) b2 c2 p2 ct sh v xs))
    case first => as_aux_lemma =>
      cases cb
      · go_wp2_with fail
        go_meet
        case rel => exact ⟨_, xs, hxl, HS⟩
      · have hcb := HCB.out
        rw [Bool.and_eq_true, decide_eq_true_eq] at hcb
        obtain ⟨m, hm⟩ : ∃ m, xs.length = m + 1 := ⟨xs.length - 1, by omega⟩
        obtain ⟨gr, cr, hfe, hgr1, hgr2, _⟩ := Kd.R_form HS.out.2.2.2.2 (by omega)
        injection hfe with e1 e2 e3
        subst e1
        have hok := HS.out.2.2.2.2.1 gr rfl
        have hput := Aside0.mk (Kd.R_put HS.out.2.2.2.2 (m : Int) (sh * 4)).1
        have hrc := (Kd.R_cell (0 : Int) HS.out.2.2.2.2 (m : Int) (by omega) (by omega))
        rw [Int.toNat_natCast] at hrc hput
        obtain ⟨k0c, k0f⟩ := hrc
        have q1 := blk_cell B9.out 1
        have q2 := blk_cell B9.out 2
        have x1 : IntKind.i64.wrap (sh * 4) = sh * 4 := by have := HSH.out; rw [IntKind.wrap_i64]; omega
        have x2 : IntKind.i64.wrap ((xs.length : Int) - 1) = (m : Int) := by rw [IntKind.wrap_i64]; omega
        have x3 : (0 : Int) ≤ (m : Int) := by omega
        have x4 : (m : Int) < (xs.length : Int) := by omega
        clear hcb hm hvc
        go_wp2_with fail
        go_meet
        case rel => exact ⟨_, xs.set m (sh * 4), by rw [List.length_set]; omega, ⟨⟨below_set HS.out.1 hgr1, blk_far HS.out.2.1 (fun e => hok.2.2 e.symm) _, blk_far HS.out.2.2.1 (fun e => hok.2.1 e.symm) _, blk_far HS.out.2.2.2.1 (fun e => hok.1 e.symm) _, hput.out⟩⟩⟩
    case rest =>
    clear HS B5 B9 hxl hvc HCB
    obtain ⟨v, xs, hxl, HS⟩ := hcut
    obtain ⟨Av, cv, hv, hvc, _⟩ := Kd.R_reads HS.out.2.2.2.2
    subst hv
    have HVC := Aside0.mk hvc
    have HXL := Aside0.mk hxl
    have HGW := Aside0.mk (HG0.out.below HS.out.1)
    have hw1 : 1 ≤ wc.heap.size := HGW.out.1
    obtain ⟨mb, hmb⟩ : ∃ q, setOk (N : Int) (Hp : Int) ct sh xs = q := ⟨_, rfl⟩
    have HNW : Aside0 (∀ W : World, GlobA W → Calls Tryd.prog 30 #[.agg #[.int .i64 (N : Int), .int .i64 (Hp : Int), .int .i64 b2, .int .i64 c2, .int .i64 p2]] W fun e w' => ∃ g, e = .returned (.pointer (some ⟨g, 0, none⟩)) ∧ W.heap.size ≤ g ∧ w'.heap[g]? = some (.cells (strC (N : Int) (Hp : Int) b2 c2 p2 0 0 (.slice none 0 0)) 86 (0, 0)) ∧ Below W.heap.size W w') := ⟨fun W hg => new_yes _ _ b2 c2 p2 W hg HR2.out⟩
    obtain ⟨R3, hR3⟩ : ∃ R, rssL (N : Int) (Hp : Int) b2 c2 p2 [1, 2, 3] = R := ⟨_, rfl⟩
    have hr3 : R3.length ≤ 64 := by
      have := rssL_len (s := (N : Int)) (h := (Hp : Int)) (b := b2) (c := c2) (p := p2) (by omega) (by omega) [1, 2, 3]
      rw [hR3] at this
      omega
    have HPU : Aside0 (∀ (g : Nat) (W : World), Below wc.heap.size wc W → StrAt W g wc.heap.size (N : Int) (Hp : Int) b2 c2 p2 0 0 (.slice none 0 0) [] → Calls Tryd.prog 31 #[.pointer (some ⟨g, 0, none⟩), .slice (some ⟨W.heap.size, 0, none⟩) 3 3] (W.alloc (.cells #[.int .i64 1, .int .i64 2, .int .i64 3] 3)) fun e w' => ∃ A1 n1 c1 v2, e = .returned (.tuple #[.slice A1 n1 c1, .int .i64 0]) ∧ Aside0 (StrAt w' g wc.heap.size (N : Int) (Hp : Int) b2 c2 p2 3 3 v2 R3) ∧ Aside0 (Below wc.heap.size wc w')) := ⟨fun g W hb hs => by
      have ha := below_alloc (Below.refl W.heap.size W) (.cells #[.int .i64 1, .int .i64 2, .int .i64 3] 3)
      have hst := hs.below ha
      have hbw := below_step hb ha
      have hf0 : frsL (N : Int) (Hp : Int) b2 c2 p2 [] = [] := by
        unfold frsL
        rw [show flatL p2 0 [] = [] from rfl, cutA_no _ (by show 0 < (N : Int).toNat; omega)]
      have H := push_st (some ⟨W.heap.size, 0, none⟩) 3 3 g wc.heap.size N Hp b2 c2 p2 [] [1, 2, 3] (frsL (N : Int) (Hp : Int) b2 c2 p2 [1, 2, 3]) (.slice none 0 0) _ (HGW.out.below hbw) hw1 hbw.size (st_new (by omega) hst) rfl (lit_c W [1, 2, 3]) (far_new (W := W) (v := .slice none 0 0) (blk_lt hs.1) (fun k hk => by simp [Value.ownBlock] at hk) 3) (by decide +kernel) (by decide) HPP.out (by omega) hH1 hHN (by omega) (by omega) (by decide) (by rw [hf0]; rfl)
      refine H.mono ?_
      rintro e_ w2 ⟨A1, c1, v2, rfl, _, hS2, hO2, hK2, hv2⟩
      refine ⟨A1, _, c1, v2, rfl, ⟨?_⟩, ⟨keeps_step hbw hst hK2.out⟩⟩
      have := hS2.out
      rw [← hR3]
      exact this⟩
    have HTL : Aside0 (∀ (g : Nat) (ct' lt' : Int) (v' : Value) (r' : List Int) (W : World), r'.length ≤ 101 → StrAt W g wc.heap.size (N : Int) (Hp : Int) b2 c2 p2 ct' lt' v' r' → Calls Tryd.prog 36 #[.pointer (some ⟨g, 0, none⟩)] W fun e w' => ∃ A1 c1, e = .returned (.agg #[.int .i64 ct', .int .i64 lt', .slice A1 r'.length c1]) ∧ Aside0 ((Kd.int .i64).R 3 w' W.heap.size (fun _ => True) (.slice A1 r'.length c1) r') ∧ Aside0 (Below W.heap.size W w')) := ⟨fun g ct' lt' v' r' W hr hs => tail_go g wc.heap.size _ _ b2 c2 p2 ct' lt' v' r' W hs (by omega)⟩
    have HMY : Aside0 (∀ W : World, Below wc.heap.size wc W → Calls Tryd.prog 39 #[.agg #[.int .i64 (N : Int), .int .i64 (Hp : Int), .int .i64 b2, .int .i64 c2, .int .i64 p2], .agg #[.int .i64 ct, .int .i64 sh, .slice Av xs.length cv]] W fun e w' => e = .returned (.bool mb) ∧ Aside0 (Below W.heap.size W w')) := ⟨fun W hb => (earshotref13_May.calls 2000 _ _ b2 c2 p2 ct sh Av cv xs mb W (Kd.C_below (R_C HS.out.2.2.2.2) hb) hvc (by rw [← hmb]; exact rmay_f13 _ _ b2 c2 p2 ct sh xs (by omega) ⟨by omega, by omega⟩ (by omega) (by omega))).mono fun e w' ⟨k, q⟩ => ⟨k, ⟨q⟩⟩⟩
    have HMB := Aside0.mk hmb
    have HR3 := Aside0.mk hr3
    have B5 := Aside0.mk HS.out.2.1
    have B8 := Aside0.mk HS.out.2.2.1
    have B9 := Aside0.mk HS.out.2.2.2.1
    have hg9w : g9 < wc.heap.size := blk_lt B9.out
    have q0 := blk_cell B8.out 0
    have q1 := blk_cell B8.out 1
    have q2 := blk_cell B8.out 2
    have q3 := blk_cell B8.out 3
    have q4 := blk_cell B8.out 4
    clear hmb hvc hxl hR3 hr3 B5
    have ST0 : True := trivial
    go_upto_region 15 with (first
      | (go_at_call 30; clear ST0; (with_reducible refine (HNW.out _ HGW.out).mono ?_); rintro e_ w1 ⟨gs, rfl, hg, hbk, B1⟩; have hgs1 : gs < w1.heap.size := blk_lt hbk; have hgs0 : wc.heap.size ≤ gs := hg; have HB1 := Aside0.mk B1; have HS1 : Aside0 (StrAt w1 gs wc.heap.size (N : Int) (Hp : Int) b2 c2 p2 0 0 (.slice none 0 0) []) := ⟨StrAt.new hbk hg⟩; clear hbk B1 hg q0 q1 q2 q3 q4; have ST1 : True := trivial)
      | (go_at_call 31; clear ST1; (with_reducible refine (HPU.out gs w1 HB1.out HS1.out).mono ?_); rintro e_ w2 ⟨A1, n1, c1, v2, rfl, HS2, HB2⟩; have hgs2 : gs < w2.heap.size := blk_lt HS2.out.1; clear HS1 HB1 hgs1; have ST2 : True := trivial)
      | (go_at_call 36; clear ST2; refine (HTL.out gs 3 3 v2 R3 _ ?hr HS2.out).mono ?_; (case hr => have := HR3.out; omega); rintro e_ w3 ⟨A3, c3, rfl, HRW, B1⟩; have HS3 := Aside0.mk (HS2.out.below B1.out); have HB3 := Aside0.mk (below_step HB2.out B1.out); have hsz2 := HB2.out.size; have hsz3 := B1.out.size; clear HB2 B1; have ST3 : True := trivial)
      | ((with_reducible refine gate_dst (N := 11) rfl ?_); refine box_event ?hg (N := 11) ?hd (cs := #[.int .i64 0, .int .i64 0, .slice none 0 0]) (t := 60) ?hr ?_; (case hd => rfl); (case hg => first | rfl | exact wanted_on rfl rfl rfl (by first | assumption | rfl | (simp [*]; done))); (case hr => first | (go_simp; done) | (go_simp; rfl)); intro g11 hg11 w4 hbox hb; have B11 := Aside0.mk hbox; have HB4 := Aside0.mk (below_step HB3.out hb); have HS4 := Aside0.mk (HS3.out.below hb); have HRW4 := Aside0.mk (Kd.R_below HRW.out hb); have hn11 : gs ≠ g11 := (by rw [hg11]; exact Nat.ne_of_lt (blk_lt HS3.out.1)); have hv11 : some g11 ≠ v2.ownBlock := (fun e_ => by have := (HS3.out.ne g11 e_.symm).2.2; omega); have hrw11 : ∀ q, (Value.slice A3 R3.length c3).ownBlock = some q → q ≠ g11 := (fun q hq e_ => by have := Kd.R_lt HRW.out q hq; omega); have hg11w : wc.heap.size ≤ g11 := (by omega); clear ST3 hbox hb HB3 HS3 HRW hg11; have q0 := blk_cell B11.out 0; have q1 := blk_cell B11.out 1; have q2 := blk_cell B11.out 2; have f0 := blk_frozen B11.out 0; have f1 := blk_frozen B11.out 1; have f2 := blk_frozen B11.out 2; have ST4 : True := trivial))
    obtain ⟨w5, hw5⟩ : ∃ W, fill3 w4 g11 (.int .i64 3) (.int .i64 3) (.slice A3 R3.length c3) = W := ⟨_, rfl⟩
    have B11n := Aside0.mk (hw5 ▸ fill3_at B11.out (.int .i64 3) (.int .i64 3) (.slice A3 R3.length c3))
    have HB5 := Aside0.mk (hw5 ▸ fill3_below HB4.out hg11w (.int .i64 3) (.int .i64 3) (.slice A3 R3.length c3))
    have HS5 := Aside0.mk (hw5 ▸ HS4.out.far hn11 hv11 (.int .i64 3) (.int .i64 3) (.slice A3 R3.length c3))
    have HRW5 := Aside0.mk (hw5 ▸ fill3_R (Kd.R_tight rfl HRW4.out) (g := g11) (fun q hq => hrw11 q hq.symm) (.int .i64 3) (.int .i64 3) (.slice A3 R3.length c3))
    unfold fill3 at hw5
    rw [hw5]
    clear hw5 B11 HB4 HS4 HRW4 q0 q1 q2 f0 f1 f2 hrw11 HS2
    cases mb
    case true =>
      have HSET : Aside0 (∀ (W : World), StrAt W gs wc.heap.size (N : Int) (Hp : Int) b2 c2 p2 3 3 v2 R3 → (Kd.int .i64).C W Av xs.length xs → Calls Tryd.prog 38 #[.pointer (some ⟨gs, 0, none⟩), .agg #[.int .i64 ct, .int .i64 sh, .slice Av xs.length cv]] W fun e w' => ∃ v', e = .returned (.int .i64 0) ∧ Aside0 (StrAt w' gs wc.heap.size (N : Int) (Hp : Int) b2 c2 p2 ct sh v' xs) ∧ Aside0 (Keeps W w' gs none)) := ⟨fun W hs hc => (set_yes Av cv xs.length gs wc.heap.size _ _ b2 c2 p2 3 3 ct sh v2 R3 xs W hs ⟨by omega, by omega⟩ ⟨by omega, by omega⟩ (by omega) rfl hc (by have := HXL.out; omega) HMB.out).mono fun e w' ⟨v', a, b, c, _⟩ => ⟨v', a, ⟨b⟩, ⟨c⟩⟩⟩
      have q0 := blk_cell (blk_below B8.out HB5.out) 0
      have q1 := blk_cell (blk_below B8.out HB5.out) 1
      have q2 := blk_cell (blk_below B8.out HB5.out) 2
      have q3 := blk_cell (blk_below B8.out HB5.out) 3
      have q4 := blk_cell (blk_below B8.out HB5.out) 4
      have r0 := blk_cell (blk_below B9.out HB5.out) 0
      have r1 := blk_cell (blk_below B9.out HB5.out) 1
      have r2 := blk_cell (blk_below B9.out HB5.out) 2
      have ST0 : True := trivial
      go_upto_region 18 with (first
        | (go_at_call 39; clear ST0; (with_reducible refine (HMY.out _ HB5.out).mono ?_); rintro e_ w6 ⟨rfl, B1⟩; have HB6 := Aside0.mk (below_step HB5.out B1.out); have HS6 := Aside0.mk (HS5.out.below B1.out); have HRW6 := Aside0.mk (Kd.R_below HRW5.out B1.out); have B116 := Aside0.mk (blk_below B11n.out B1.out); clear B1 HB5 HS5 HRW5 B11n q0 q1 q2 q3 q4 r0 r1 r2; have r0 := blk_cell (blk_below B9.out HB6.out) 0; have r1 := blk_cell (blk_below B9.out HB6.out) 1; have r2 := blk_cell (blk_below B9.out HB6.out) 2; have ST1 : True := trivial)
        | (go_at_call 38; clear ST1; refine (HSET.out _ HS6.out ?hc).mono ?_; (case hc => exact Kd.C_below (R_C HS.out.2.2.2.2) HB6.out); rintro e_ w7 ⟨v7, rfl, HS7, HK7⟩; have HB7 := Aside0.mk (HB6.out.trans (HK7.out.toBelow HB6.out.size hgs0 (fun k hk => by cases hk))); have B117 := Aside0.mk (HK7.out.blk B116.out (fun e_ => hn11 e_.symm) (fun e_ => by cases e_)); have HRW7 := Aside0.mk (HK7.out.R (Kd.R_mono (Kd.R_bound HRW6.out) (ok' := fun q => q ≠ gs) (fun q hq => by have := hq.2.1; omega)) (fun k hk => ⟨hk, fun e_ => by cases e_⟩)); clear HB6 HS6 HRW6 B116 HK7 r0 r1 r2; have hs7 := HB7.out.size; have ST2 : True := trivial)
        | (go_at_call 36; clear ST2; refine (HTL.out gs ct sh v7 xs _ ?hr HS7.out).mono ?_; (case hr => have := HXL.out; omega); rintro e_ w8 ⟨A8, c8, rfl, HR8, B1⟩; have HB8 := Aside0.mk (below_step HB7.out B1.out); have B118 := Aside0.mk (blk_below B117.out B1.out); have HRW8 := Aside0.mk (Kd.R_below HRW7.out B1.out); have hsz8 := B1.out.size; have hg11w8 : g11 < w8.heap.size := blk_lt B118.out; clear HB7 B1 HS7 HRW7 B117; have ST3 : True := trivial)
        | ((with_reducible refine gate_dst (N := 14) rfl ?_); refine box_event ?hg (N := 14) ?hd (cs := #[.int .i64 0, .int .i64 0, .slice none 0 0]) (t := 60) ?hr ?_; (case hd => rfl); (case hg => first | rfl | exact wanted_on rfl rfl rfl (by first | assumption | rfl | (simp [*]; done))); (case hr => first | (go_simp; done) | (go_simp; rfl)); intro g14 hg14 w9 hbox hb; have B14 := Aside0.mk hbox; have HB9 := Aside0.mk (below_step HB8.out hb); have B119 := Aside0.mk (blk_below B118.out hb); have HR9 := Aside0.mk (Kd.R_below HR8.out hb); have HRW9 := Aside0.mk (Kd.R_below HRW8.out hb); have hn14 : g11 ≠ g14 := (by omega); have hr14 : ∀ q, (Value.slice A8 xs.length c8).ownBlock = some q → q ≠ g14 := (fun q hq e_ => by have := Kd.R_lt HR8.out q hq; omega); have hw14 : ∀ q, (Value.slice A3 R3.length c3).ownBlock = some q → q ≠ g14 := (fun q hq e_ => by have := Kd.R_lt HRW8.out q hq; omega); have hg14w : wc.heap.size ≤ g14 := (by omega); clear ST3 hbox hb HB8 HR8 HRW8 B118 hg14; have q0 := blk_cell B14.out 0; have q1 := blk_cell B14.out 1; have q2 := blk_cell B14.out 2; have f0 := blk_frozen B14.out 0; have f1 := blk_frozen B14.out 1; have f2 := blk_frozen B14.out 2; have ST4 : True := trivial))
      obtain ⟨w10, hw10⟩ : ∃ W, fill3 w9 g14 (.int .i64 ct) (.int .i64 sh) (.slice A8 xs.length c8) = W := ⟨_, rfl⟩
      have B14n := Aside0.mk (hw10 ▸ fill3_at B14.out (.int .i64 ct) (.int .i64 sh) (.slice A8 xs.length c8))
      have B11m := Aside0.mk (hw10 ▸ fill3_far (g := g14) B119.out hn14 (.int .i64 ct) (.int .i64 sh) (.slice A8 xs.length c8))
      have HB10 := Aside0.mk (hw10 ▸ fill3_below HB9.out hg14w (.int .i64 ct) (.int .i64 sh) (.slice A8 xs.length c8))
      have HR10 := Aside0.mk (hw10 ▸ fill3_R (Kd.R_tight rfl HR9.out) (g := g14) (fun q hq => hr14 q hq.symm) (.int .i64 ct) (.int .i64 sh) (.slice A8 xs.length c8))
      have HRW10 := Aside0.mk (hw10 ▸ fill3_R (Kd.R_tight rfl HRW9.out) (g := g14) (fun q hq => hw14 q hq.symm) (.int .i64 ct) (.int .i64 sh) (.slice A8 xs.length c8))
      unfold fill3 at hw10
      rw [hw10]
      clear hw10 B14 B119 HB9 HR9 HRW9 q0 q1 q2 f0 f1 f2 hr14 hw14
      have HC8 := Aside0.mk (R_C HR10.out)
      have hc8 : xs.length ≤ c8 := (Kd.R_reads' HR10.out).2.1
      have HCt := Aside0.mk (Kd.C_below (R_C HS.out.2.2.2.2) HB10.out)
      have HSM : Aside0 (Calls Tryd.prog 16 #[.slice A8 xs.length c8, .slice Av xs.length cv] w10 fun e w' => e = .returned (.bool true) ∧ Aside0 (Below wc.heap.size wc w') ∧ Aside0 (Below w10.heap.size w10 w')) := ⟨same_c A8 xs.length c8 Av cv xs xs w10 HB10.out rfl rfl HC8.out HCt.out hc8 HVC.out (by have := HXL.out; omega)⟩
      have q0 := blk_cell B14n.out 0
      have q1 := blk_cell B14n.out 1
      have q2 := blk_cell B14n.out 2
      have q3 := blk_cell B11m.out 0
      have q4 := blk_cell B11m.out 1
      have q5 := blk_cell B11m.out 2
      have r0 := blk_cell (blk_below B9.out HB10.out) 0
      have r1 := blk_cell (blk_below B9.out HB10.out) 1
      have r2 := blk_cell (blk_below B9.out HB10.out) 2
      go_wp2_with (first
        | (go_at_call 16; (with_reducible refine HSM.out.mono ?_); rintro e_ w11 ⟨rfl, HB11, B1⟩; clear q0 q1 q2 q3 q4 q5 r0 r1 r2; have B14z := Aside0.mk (blk_below B14n.out B1.out); have B11z := Aside0.mk (blk_below B11m.out B1.out); have q0 := blk_cell B14z.out 0; have q1 := blk_cell B14z.out 1; have q2 := blk_cell B14z.out 2; have q3 := blk_cell B11z.out 0; have q4 := blk_cell B11z.out 1; have q5 := blk_cell B11z.out 2; have r0 := blk_cell (blk_below B9.out HB11.out) 0; have r1 := blk_cell (blk_below B9.out HB11.out) 1; have r2 := blk_cell (blk_below B9.out HB11.out) 2))
      all_goals
        go_ret
        exact ⟨rfl, below_step HS.out.1 HB11.out⟩
    case false =>
      have HSET : Aside0 (∀ (W : World), StrAt W gs wc.heap.size (N : Int) (Hp : Int) b2 c2 p2 3 3 v2 R3 → (Kd.int .i64).C W Av xs.length xs → Calls Tryd.prog 38 #[.pointer (some ⟨gs, 0, none⟩), .agg #[.int .i64 ct, .int .i64 sh, .slice Av xs.length cv]] W fun e w' => ∃ v', e = .returned (.int .i64 1) ∧ Aside0 (StrAt w' gs wc.heap.size (N : Int) (Hp : Int) b2 c2 p2 3 3 v' R3) ∧ Aside0 (Keeps W w' gs none)) := ⟨fun W hs hc => (set_no Av cv xs.length gs wc.heap.size _ _ b2 c2 p2 3 3 ct sh v2 R3 xs W hs ⟨by omega, by omega⟩ ⟨by omega, by omega⟩ (by omega) rfl hc HMB.out).mono fun e w' ⟨a, q⟩ => ⟨v2, a, ⟨hs.below q⟩, ⟨(Keeps.refl W gs none).below q⟩⟩⟩
      have q0 := blk_cell (blk_below B8.out HB5.out) 0
      have q1 := blk_cell (blk_below B8.out HB5.out) 1
      have q2 := blk_cell (blk_below B8.out HB5.out) 2
      have q3 := blk_cell (blk_below B8.out HB5.out) 3
      have q4 := blk_cell (blk_below B8.out HB5.out) 4
      have r0 := blk_cell (blk_below B9.out HB5.out) 0
      have r1 := blk_cell (blk_below B9.out HB5.out) 1
      have r2 := blk_cell (blk_below B9.out HB5.out) 2
      have ST0 : True := trivial
      go_upto_region 18 with (first
        | (go_at_call 39; clear ST0; (with_reducible refine (HMY.out _ HB5.out).mono ?_); rintro e_ w6 ⟨rfl, B1⟩; have HB6 := Aside0.mk (below_step HB5.out B1.out); have HS6 := Aside0.mk (HS5.out.below B1.out); have HRW6 := Aside0.mk (Kd.R_below HRW5.out B1.out); have B116 := Aside0.mk (blk_below B11n.out B1.out); clear B1 HB5 HS5 HRW5 B11n q0 q1 q2 q3 q4 r0 r1 r2; have r0 := blk_cell (blk_below B9.out HB6.out) 0; have r1 := blk_cell (blk_below B9.out HB6.out) 1; have r2 := blk_cell (blk_below B9.out HB6.out) 2; have ST1 : True := trivial)
        | (go_at_call 38; clear ST1; refine (HSET.out _ HS6.out ?hc).mono ?_; (case hc => exact Kd.C_below (R_C HS.out.2.2.2.2) HB6.out); rintro e_ w7 ⟨v7, rfl, HS7, HK7⟩; have HB7 := Aside0.mk (HB6.out.trans (HK7.out.toBelow HB6.out.size hgs0 (fun k hk => by cases hk))); have B117 := Aside0.mk (HK7.out.blk B116.out (fun e_ => hn11 e_.symm) (fun e_ => by cases e_)); have HRW7 := Aside0.mk (HK7.out.R (Kd.R_mono (Kd.R_bound HRW6.out) (ok' := fun q => q ≠ gs) (fun q hq => by have := hq.2.1; omega)) (fun k hk => ⟨hk, fun e_ => by cases e_⟩)); clear HB6 HS6 HRW6 B116 HK7 r0 r1 r2; have hs7 := HB7.out.size; have ST2 : True := trivial)
        | (go_at_call 36; clear ST2; refine (HTL.out gs 3 3 v7 R3 _ ?hr HS7.out).mono ?_; (case hr => have := HR3.out; omega); rintro e_ w8 ⟨A8, c8, rfl, HR8, B1⟩; have HB8 := Aside0.mk (below_step HB7.out B1.out); have B118 := Aside0.mk (blk_below B117.out B1.out); have HRW8 := Aside0.mk (Kd.R_below HRW7.out B1.out); have hsz8 := B1.out.size; have hg11w8 : g11 < w8.heap.size := blk_lt B118.out; clear HB7 B1 HS7 HRW7 B117; have ST3 : True := trivial)
        | ((with_reducible refine gate_dst (N := 14) rfl ?_); refine box_event ?hg (N := 14) ?hd (cs := #[.int .i64 0, .int .i64 0, .slice none 0 0]) (t := 60) ?hr ?_; (case hd => rfl); (case hg => first | rfl | exact wanted_on rfl rfl rfl (by first | assumption | rfl | (simp [*]; done))); (case hr => first | (go_simp; done) | (go_simp; rfl)); intro g14 hg14 w9 hbox hb; have B14 := Aside0.mk hbox; have HB9 := Aside0.mk (below_step HB8.out hb); have B119 := Aside0.mk (blk_below B118.out hb); have HR9 := Aside0.mk (Kd.R_below HR8.out hb); have HRW9 := Aside0.mk (Kd.R_below HRW8.out hb); have hn14 : g11 ≠ g14 := (by omega); have hr14 : ∀ q, (Value.slice A8 R3.length c8).ownBlock = some q → q ≠ g14 := (fun q hq e_ => by have := Kd.R_lt HR8.out q hq; omega); have hw14 : ∀ q, (Value.slice A3 R3.length c3).ownBlock = some q → q ≠ g14 := (fun q hq e_ => by have := Kd.R_lt HRW8.out q hq; omega); have hg14w : wc.heap.size ≤ g14 := (by omega); clear ST3 hbox hb HB8 HR8 HRW8 B118 hg14; have q0 := blk_cell B14.out 0; have q1 := blk_cell B14.out 1; have q2 := blk_cell B14.out 2; have f0 := blk_frozen B14.out 0; have f1 := blk_frozen B14.out 1; have f2 := blk_frozen B14.out 2; have ST4 : True := trivial))
      obtain ⟨w10, hw10⟩ : ∃ W, fill3 w9 g14 (.int .i64 3) (.int .i64 3) (.slice A8 R3.length c8) = W := ⟨_, rfl⟩
      have B14n := Aside0.mk (hw10 ▸ fill3_at B14.out (.int .i64 3) (.int .i64 3) (.slice A8 R3.length c8))
      have B11m := Aside0.mk (hw10 ▸ fill3_far (g := g14) B119.out hn14 (.int .i64 3) (.int .i64 3) (.slice A8 R3.length c8))
      have HB10 := Aside0.mk (hw10 ▸ fill3_below HB9.out hg14w (.int .i64 3) (.int .i64 3) (.slice A8 R3.length c8))
      have HR10 := Aside0.mk (hw10 ▸ fill3_R (Kd.R_tight rfl HR9.out) (g := g14) (fun q hq => hr14 q hq.symm) (.int .i64 3) (.int .i64 3) (.slice A8 R3.length c8))
      have HRW10 := Aside0.mk (hw10 ▸ fill3_R (Kd.R_tight rfl HRW9.out) (g := g14) (fun q hq => hw14 q hq.symm) (.int .i64 3) (.int .i64 3) (.slice A8 R3.length c8))
      unfold fill3 at hw10
      rw [hw10]
      clear hw10 B14 B119 HB9 HR9 HRW9 q0 q1 q2 f0 f1 f2 hr14 hw14
      have HC8 := Aside0.mk (R_C HR10.out)
      have hc8 : R3.length ≤ c8 := (Kd.R_reads' HR10.out).2.1
      have HCt := Aside0.mk (R_C HRW10.out)
      have hc3 : R3.length ≤ c3 := (Kd.R_reads' HRW10.out).2.1
      have HSM : Aside0 (Calls Tryd.prog 16 #[.slice A8 R3.length c8, .slice A3 R3.length c3] w10 fun e w' => e = .returned (.bool true) ∧ Aside0 (Below wc.heap.size wc w') ∧ Aside0 (Below w10.heap.size w10 w')) := ⟨same_c A8 R3.length c8 A3 c3 R3 R3 w10 HB10.out rfl rfl HC8.out HCt.out hc8 hc3 (by have := HR3.out; omega)⟩
      have q0 := blk_cell B14n.out 0
      have q1 := blk_cell B14n.out 1
      have q2 := blk_cell B14n.out 2
      have q3 := blk_cell B11m.out 0
      have q4 := blk_cell B11m.out 1
      have q5 := blk_cell B11m.out 2
      have r0 := blk_cell (blk_below B9.out HB10.out) 0
      have r1 := blk_cell (blk_below B9.out HB10.out) 1
      have r2 := blk_cell (blk_below B9.out HB10.out) 2
      go_wp2_with (first
        | (go_at_call 16; (with_reducible refine HSM.out.mono ?_); rintro e_ w11 ⟨rfl, HB11, B1⟩; clear q0 q1 q2 q3 q4 q5 r0 r1 r2; have B14z := Aside0.mk (blk_below B14n.out B1.out); have B11z := Aside0.mk (blk_below B11m.out B1.out); have q0 := blk_cell B14z.out 0; have q1 := blk_cell B14z.out 1; have q2 := blk_cell B14z.out 2; have q3 := blk_cell B11z.out 0; have q4 := blk_cell B11z.out 1; have q5 := blk_cell B11z.out 2; have r0 := blk_cell (blk_below B9.out HB11.out) 0; have r1 := blk_cell (blk_below B9.out HB11.out) 1; have r2 := blk_cell (blk_below B9.out HB11.out) 2))
      all_goals
        go_ret
        exact ⟨rfl, below_step HS.out.1 HB11.out⟩
theorem earshotlaw13_FrontTails.calls (a0_0 a0_1 a0_2 : Int) (a0_3 a0_4 : Bool) (a1 : Int) (a2_0 a2_1 a2_2 : Bool) (r : Bool) (w : World) (hG : GlobA w) (h : earshotlaw13_FrontTails.f a0_0 a0_1 a0_2 a0_3 a0_4 a1 a2_0 a2_1 a2_2 = some r) :
    Calls Tryd.prog 12 #[.agg #[.int .i64 a0_0, .int .i64 a0_1, .int .i64 a0_2, .bool a0_3, .bool a0_4], .int .i64 a1, .agg #[.bool a2_0, .bool a2_1, .bool a2_2]] w fun e w' => e = .returned (.bool r) ∧ Below w.heap.size w w' := by
  unfold earshotlaw13_FrontTails.f at h
  split at h
  case isFalse => cases h
  rename_i hz
  obtain rfl := Option.some.inj h
  simp only [Bool.and_eq_true, decide_eq_true_eq] at hz
  exact tails_go _ _ _ _ _ _ _ _ _ w hG hz

/-- THE ONE PURE STATEMENT of earshotlaw13_FrontTails: yours. -/
def earshotlaw13_FrontTails.Pure : Prop := ∀ (a0_0 : Int) (a0_1 : Int) (a0_2 : Int) (a0_3 : Bool) (a0_4 : Bool) (a1 : Int) (a2_0 : Bool) (a2_1 : Bool) (a2_2 : Bool), (Lit.int .i64 a0_0).wf = true → (Lit.int .i64 a0_1).wf = true → (Lit.int .i64 a0_2).wf = true → (Lit.int .i64 a1).wf = true → earshotlaw13_FrontTails.f a0_0 a0_1 a0_2 a0_3 a0_4 a1 a2_0 a2_1 a2_2 = some true
theorem earshotlaw13_FrontTails.walk (P : earshotlaw13_FrontTails.Pure) (a0_0 : Int) (a0_1 : Int) (a0_2 : Int) (a0_3 : Bool) (a0_4 : Bool) (a1 : Int) (a2_0 : Bool) (a2_1 : Bool) (a2_2 : Bool) (w : World) (w0_0 : (Lit.int .i64 a0_0).wf = true) (w0_1 : (Lit.int .i64 a0_1).wf = true) (w0_2 : (Lit.int .i64 a0_2).wf = true) (w1 : (Lit.int .i64 a1).wf = true)  (hG : GlobA w) :
    Calls Tryd.prog 12 #[.agg #[.int .i64 a0_0, .int .i64 a0_1, .int .i64 a0_2, .bool a0_3, .bool a0_4], .int .i64 a1, .agg #[.bool a2_0, .bool a2_1, .bool a2_2]] w fun e w' => e = .returned (.bool true) ∧ Below w.heap.size w w' := by
  have h := P a0_0 a0_1 a0_2 a0_3 a0_4 a1 a2_0 a2_1 a2_2 w0_0 w0_1 w0_2 w1
  refine (earshotlaw13_FrontTails.calls a0_0 a0_1 a0_2 a0_3 a0_4 a1 a2_0 a2_1 a2_2 true w hG h).mono ?_
  rintro e w' ⟨rfl, hd⟩
  exact ⟨rfl, hd⟩

end Go.Proofs.YtmhacdnnnebpdaaDoor.PFrontTails
