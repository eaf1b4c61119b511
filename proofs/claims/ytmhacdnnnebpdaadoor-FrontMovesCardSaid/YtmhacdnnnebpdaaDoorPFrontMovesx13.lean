-- Written by a program of this work (wip/tools) for this claim; Lean checks it.
import Derived.Test.YtmhacdnnnebpdaaDoorPFrontMovesx0
import Derived.Test.YtmhacdnnnebpdaaDoorPFrontMovesx1
import Derived.Test.YtmhacdnnnebpdaaDoorPFrontMovesx2
import Derived.Test.YtmhacdnnnebpdaaDoorPFrontMovesx3
import Derived.Test.YtmhacdnnnebpdaaDoorPFrontMovesx4
import Derived.Test.YtmhacdnnnebpdaaDoorPFrontMovesx5
import Derived.Test.YtmhacdnnnebpdaaDoorPFrontMovesx6
import Derived.Test.YtmhacdnnnebpdaaDoorPFrontMovesx7
import Derived.Test.YtmhacdnnnebpdaaDoorPFrontMovesx8
import Derived.Test.YtmhacdnnnebpdaaDoorPFrontMovesx9
import Derived.Test.YtmhacdnnnebpdaaDoorPFrontMovesx10
import Derived.Test.YtmhacdnnnebpdaaDoorPFrontMovesx11
import Derived.Test.YtmhacdnnnebpdaaDoorPFrontMovesx12
namespace Go.Proofs.YtmhacdnnnebpdaaDoor.PFrontMoves
open Go.RowKit Go.Proofs.YtmhacdnnnebpdaaDoorW.PrintWords Go.Proofs.YtmhacdnnnebpdaaDoorW.PrintLast Go.Proofs.YtmhacdnnnebpdaaDoorW.PrintMore
attribute [local go_sem] max2_int min2_int max_two min_two max_three min_three max_four min_four   -- for this text's walks alone
set_option linter.unusedVariables false
set_option linter.unusedSimpArgs false

/-! ### earshotlaw13_FrontMoves: function 11 -/
-- PURE intro _ _ _ _ _ l1 q _ _ _ _ h8 _ hq; unfold earshotlaw13_FrontMoves.f; rw [if_pos]; simp only [Bool.and_eq_true, decide_eq_true_eq]; exact ⟨⟨by omega, (wf_i64 hq).1⟩, (wf_i64 hq).2⟩

/-- A call's result is a row that reads as xs; the world is as it was, but for what is new. -/
def CRes (w0 W : World) (h : Nat) (xs : List Int) (e : Ending) (w' : World) : Prop :=
  ∃ A c, e = .returned (.slice A h c) ∧ h ≤ c ∧ Aside0 ((Kd.int .i64).C w' A h xs) ∧ Aside0 (Below w0.heap.size w0 w') ∧ Aside0 (Below W.heap.size W w')
theorem cres_of {w0 W w' : World} {h : Nat} {xs : List Int} {v : Value} {t b : Nat} {ok : Nat → Prop} (hB : Below w0.heap.size w0 W) (hR : (Kd.int .i64).R t w' b ok v xs) (hl : xs.length = h) (hb : Below W.heap.size W w') : CRes w0 W h xs (.returned v) w' := by
  subst hl
  obtain ⟨A, c, rfl, h1, h2⟩ := Kd.R_reads hR
  exact ⟨A, c, rfl, h1, ⟨h2⟩, ⟨below_step hB hb⟩, ⟨hb⟩⟩
theorem same_go (l : List Int) (hl : l.length ≤ 100000000) (d : Nat) : ∀ (k i : Nat), i ≤ l.length → l.length - i = d → d < k → earshotref04_Same.l0 k l l (i : Int) = some true := by
  induction d with
  | zero =>
    intro k i h0 hd hk
    obtain ⟨k, rfl⟩ : ∃ m, k = m + 1 := ⟨k - 1, by omega⟩
    simp only [earshotref04_Same.l0]
    rw [if_neg (by omega)]
  | succ d ih =>
    intro k i h0 hd hk
    obtain ⟨k, rfl⟩ : ∃ m, k = m + 1 := ⟨k - 1, by omega⟩
    simp only [earshotref04_Same.l0]
    have hw : wrap64 ((i : Int) + 1) = ((i + 1 : Nat) : Int) := by unfold wrap64; omega
    rw [if_pos (by omega), if_pos (by omega), if_pos (by omega), if_pos trivial, hw]
    exact ih k (i + 1) (by omega) (by omega) (by omega)
theorem same_f (l : List Int) (hl : l.length ≤ 100000000) : earshotref04_Same.f (l.length + 1) l l = some true := by
  unfold earshotref04_Same.f
  rw [if_pos rfl]
  exact same_go l hl l.length _ 0 (by omega) (by omega) (by omega)
/-- Two rows that read the same. -/
theorem same_c {w0 : World} (A1 : Option Addr) (h c1 : Nat) (A2 : Option Addr) (c2 : Nat) (l1 l2 : List Int) (W : World) (hB : Below w0.heap.size w0 W) (hl : l1.length = h) (he : l1 = l2) (hC1 : (Kd.int .i64).C W A1 h l1) (hC2 : (Kd.int .i64).C W A2 h l2) (h1 : h ≤ c1) (h2 : h ≤ c2) (hh : h ≤ 1000000) :
    Calls Tryd.prog 16 #[.slice A1 h c1, .slice A2 h c2] W fun e w' => e = .returned (.bool true) ∧ Aside0 (Below w0.heap.size w0 w') ∧ Aside0 (Below W.heap.size W w') := by
  subst he
  subst hl
  exact (earshotref04_Same.calls _ A1 c1 l1 A2 c2 l1 true W hC1 h1 hC2 h2 (same_f l1 (by omega))).mono fun e w' ⟨a, ⟨n, b⟩⟩ => by
    subst b
    exact ⟨a, ⟨pw_below_drewN hB n⟩, ⟨pw_below_drewN (Below.refl _ _) n⟩⟩
theorem zeros_c (X : World) (g n : Nat) (hg : g = X.heap.size) (hn : n ≤ 1000000) : (Kd.int .i64).C (X.alloc (.cells (madeCells #[.int .i64 0] n) 3)) (some ⟨g, 0, none⟩) n (List.replicate n 0) := by
  subst hg
  have h := own_made X X.heap.size 3 .i64 n (Nat.le_refl _) (by omega)
  have hR := Kd.R_of_own (enc := Value.int .i64) (h1 := fun _ => rfl) (ok := fun _ => True) (xs := List.replicate n 0) (by rw [List.length_replicate]; exact h) (fun _ _ => trivial)
  obtain ⟨A, c, he, _, h2⟩ := Kd.R_reads hR
  rw [List.length_replicate] at he h2
  injection he with e1 e2 e3
  rw [e1]
  exact h2
/-- A callee that draws only, in a region that is walked once, in a world that has drawn before. -/
theorem quiet_add {P : Program} {f : FuncId} {args : Array Value} {W : World} {K x : Nat} {v : Value} (h : Calls P f args (W.drewN (K + x)) fun e w' => e = .returned v ∧ Drawn0 (W.drewN (K + x)) w') :
    Calls P f args (W.drewN (K + x)) fun e w'' => e = .returned v ∧ ∃ n, w'' = W.drewN (K + n) :=
  h.mono fun _ _ ⟨he, ⟨m, hm⟩⟩ => ⟨he, x + m, by rw [hm, World.drewN_drewN, Nat.add_assoc]⟩
/-- .. likewise, in a world that is named by one count. -/
theorem quiet_d {P : Program} {f : FuncId} {args : Array Value} {W : World} {x : Nat} {v : Value} (h : Calls P f args (W.drewN x) fun e w' => e = .returned v ∧ Drawn0 (W.drewN x) w') :
    Calls P f args (W.drewN x) fun e w'' => e = .returned v ∧ ∃ n, w'' = W.drewN n :=
  h.mono fun _ _ ⟨he, ⟨m, hm⟩⟩ => ⟨he, x + m, by rw [hm, World.drewN_drewN]⟩

/-! ### Sound cut in parts tells the frames of the whole -/
def cutA (s h b c p : Int) (r : List Int) : List (List Int) × List Int := cutN s h b c p (r.length + 1) r
theorem cutA_yes {s h b c p : Int} (hs : 1 ≤ s.toNat) (hh : 1 ≤ h.toNat) (r : List Int) (hr : s.toNat ≤ r.length) :
    cutA s h b c p r = (frameF s h b c p (r.take s.toNat) :: (cutA s h b c p (r.drop h.toNat)).1, (cutA s h b c p (r.drop h.toNat)).2) := by
  unfold cutA
  rw [cutN_yes _ _ _ _ _ _ _ hr, cutN_more s h b c p hs hh ((r.drop h.toNat).length + 1) r.length (r.drop h.toNat) (by omega) (by rw [List.length_drop]; omega)]
theorem cutA_no {s h b c p : Int} (r : List Int) (hr : r.length < s.toNat) : cutA s h b c p r = ([], r) := cutN_no _ _ _ _ _ _ _ hr
theorem cutA_app {s h b c p : Int} (hs : 1 ≤ s.toNat) (hh : 1 ≤ h.toNat) (hhs : h.toNat ≤ s.toNat) (ys : List Int) : ∀ (n : Nat) (r : List Int), r.length ≤ n →
    cutA s h b c p (r ++ ys) = ((cutA s h b c p r).1 ++ (cutA s h b c p ((cutA s h b c p r).2 ++ ys)).1, (cutA s h b c p ((cutA s h b c p r).2 ++ ys)).2)
  | n, r, hn => by
    by_cases hr : r.length < s.toNat
    · rw [cutA_no r hr]; rfl
    · have hr2 : s.toNat ≤ r.length := by omega
      match n, hn with
      | 0, hn => omega
      | n + 1, hn =>
        have ih := cutA_app (s := s) (h := h) (b := b) (c := c) (p := p) hs hh hhs ys n (r.drop h.toNat) (by rw [List.length_drop]; omega)
        rw [cutA_yes hs hh r hr2, cutA_yes hs hh (r ++ ys) (by rw [List.length_append]; omega), List.take_append_of_le_length hr2, List.drop_append_of_le_length (by omega), ih]
        rfl
theorem cutA_rest {s h b c p : Int} (hs : 1 ≤ s.toNat) (hh : 1 ≤ h.toNat) : ∀ (n : Nat) (r : List Int), r.length ≤ n → (cutA s h b c p r).2.length < s.toNat
  | n, r, hn => by
    by_cases hr : r.length < s.toNat
    · rw [cutA_no r hr]; exact hr
    · match n, hn with
      | 0, hn => omega
      | n + 1, hn =>
        rw [cutA_yes hs hh r (by omega)]
        exact cutA_rest hs hh n (r.drop h.toNat) (by rw [List.length_drop]; omega)
def framesI (s h n : Int) : Int := if n < s then 0 else (n - s) / h + 1
def neededI (s h n : Int) : Int := n - framesI s h n * h
theorem framesI_step {s h n : Int} (hh : 1 ≤ h) (hhs : h ≤ s) (hn : s ≤ n) : framesI s h n = framesI s h (n - h) + 1 := by
  unfold framesI
  rw [if_neg (by omega)]
  by_cases c : n - h < s
  · rw [if_pos c, Int.ediv_eq_zero_of_lt (by omega) (by omega)]
  · rw [if_neg c]
    have e : n - s = (n - h - s) + 1 * h := by omega
    rw [e, Int.add_mul_ediv_right _ _ (by omega)]
theorem framesI_nn {s h n : Int} (hh : 1 ≤ h) : 0 ≤ framesI s h n := by
  unfold framesI
  split
  · omega
  · have := Int.ediv_nonneg (a := n - s) (b := h) (by omega) (by omega)
    omega
theorem framesI_mono1 {s h n : Int} (hh : 1 ≤ h) (hs : 1 ≤ s) : framesI s h (n + 1) ≤ framesI s h n + 1 ∧ framesI s h n ≤ framesI s h (n + 1) := by
  unfold framesI
  by_cases c : n + 1 < s
  · rw [if_pos c, if_pos (by omega)]; omega
  · rw [if_neg c]
    by_cases d : n < s
    · rw [if_pos d, show n + 1 - s = 0 by omega, Int.zero_ediv]; omega
    · rw [if_neg d]
      have h1 : (n + 1 - s) / h ≤ (n - s + 1 * h) / h := Int.ediv_le_ediv (by omega) (by omega)
      rw [Int.add_mul_ediv_right _ _ (by omega)] at h1
      have h2 : (n - s) / h ≤ (n + 1 - s) / h := Int.ediv_le_ediv (by omega) (by omega)
      omega
theorem framesI_mul {s h n : Int} (hs : 0 ≤ s) (hh : 1 ≤ h) (hhs : h ≤ s) (h0 : 0 ≤ n) : 0 ≤ framesI s h n * h ∧ framesI s h n * h ≤ n := by
  unfold framesI
  split
  · omega
  · rename_i hn
    have a : 0 ≤ (n - s) / h := Int.ediv_nonneg (by omega) (by omega)
    have b : (n - s) / h * h ≤ n - s := Int.ediv_mul_le _ (by omega)
    have e : ((n - s) / h + 1) * h = (n - s) / h * h + h := by rw [Int.add_mul, Int.one_mul]
    have m : 0 ≤ (n - s) / h * h := Int.mul_nonneg a (by omega)
    omega
/-- How many frames, which, and what is left. -/
theorem cutA_what {s h b c p : Int} (hh : 1 ≤ h) (hhs : h ≤ s) : ∀ (n : Nat) (r : List Int), r.length ≤ n →
    ((cutA s h b c p r).1.length : Int) = framesI s h (r.length : Int) ∧ (cutA s h b c p r).2 = r.drop ((cutA s h b c p r).1.length * h.toNat) ∧
      ∀ i, i < (cutA s h b c p r).1.length → (cutA s h b c p r).1.getD i [] = frameF s h b c p ((r.drop (i * h.toNat)).take s.toNat)
  | n, r, hn => by
    by_cases hr : r.length < s.toNat
    · rw [cutA_no r hr]
      refine ⟨?_, by simp, fun i hi => by simp at hi⟩
      unfold framesI
      rw [if_pos (by omega)]; rfl
    · match n, hn with
      | 0, hn => omega
      | n + 1, hn =>
        obtain ⟨i1, i2, i3⟩ := cutA_what (s := s) (h := h) (b := b) (c := c) (p := p) hh hhs n (r.drop h.toNat) (by rw [List.length_drop]; omega)
        rw [cutA_yes (by omega) (by omega) r (by omega)]
        generalize cutA s h b c p (r.drop h.toNat) = q at i1 i2 i3
        have hl : ((r.drop h.toNat).length : Int) = (r.length : Int) - h := by rw [List.length_drop]; omega
        rw [hl] at i1
        refine ⟨?_, ?_, ?_⟩
        · rw [framesI_step hh hhs (show s ≤ (r.length : Int) by omega), ← i1, List.length_cons]; omega
        · show q.2 = _
          rw [i2, List.drop_drop, List.length_cons, Nat.add_mul, Nat.one_mul, Nat.add_comm]
        · intro i hi
          cases i with
          | zero => rw [Nat.zero_mul, List.drop_zero]; rfl
          | succ i =>
            rw [List.length_cons] at hi
            have := i3 i (by omega)
            rw [List.drop_drop] at this
            rw [List.getD_cons_succ, this, Nat.add_mul, Nat.one_mul, Nat.add_comm]
theorem flatL_app (p : Int) : ∀ (last : Int) (xs ys : List Int), flatL p last (xs ++ ys) = flatL p last xs ++ flatL p (lastL last xs) ys
  | _, [], _ => rfl
  | last, x :: xs, ys => by
    show preS p last x :: flatL p x (xs ++ ys) = _
    rw [flatL_app p x xs ys]; rfl
theorem lastL_app : ∀ (last : Int) (xs ys : List Int), lastL last (xs ++ ys) = lastL (lastL last xs) ys
  | _, [], _ => rfl
  | _, x :: xs, ys => lastL_app x xs ys
/-- The frames of sound from the start, and the rest. -/
def frsL (s h b c p : Int) (l : List Int) : List (List Int) := (cutA s h b c p (flatL p 0 l)).1
def rssL (s h b c p : Int) (l : List Int) : List Int := (cutA s h b c p (flatL p 0 l)).2
theorem cut_step {s h b c p : Int} (hs : 1 ≤ s.toNat) (hh : 1 ≤ h.toNat) (hhs : h.toNat ≤ s.toNat) (L xs : List Int) :
    frsL s h b c p (L ++ xs) = frsL s h b c p L ++ (cutA s h b c p (rssL s h b c p L ++ flatL p (lastL 0 L) xs)).1 ∧ rssL s h b c p (L ++ xs) = (cutA s h b c p (rssL s h b c p L ++ flatL p (lastL 0 L) xs)).2 := by
  unfold frsL rssL
  rw [flatL_app, cutA_app hs hh hhs _ _ _ (Nat.le_refl _)]
  exact ⟨rfl, rfl⟩
theorem frsL_len {s h b c p : Int} (hh : 1 ≤ h) (hhs : h ≤ s) (l : List Int) : ((frsL s h b c p l).length : Int) = framesI s h (l.length : Int) := by
  have := (cutA_what (s := s) (h := h) (b := b) (c := c) (p := p) hh hhs _ (flatL p 0 l) (Nat.le_refl _)).1
  rw [flatL_length] at this
  exact this
theorem rssL_eq {s h b c p : Int} (hh : 1 ≤ h) (hhs : h ≤ s) (l : List Int) : rssL s h b c p l = (flatL p 0 l).drop ((framesI s h (l.length : Int)).toNat * h.toNat) := by
  have h1 := (cutA_what (s := s) (h := h) (b := b) (c := c) (p := p) hh hhs _ (flatL p 0 l) (Nat.le_refl _)).2.1
  have h2 := frsL_len (s := s) (h := h) (b := b) (c := c) (p := p) hh hhs l
  unfold rssL
  rw [h1, show (cutA s h b c p (flatL p 0 l)).1.length = (framesI s h (l.length : Int)).toNat by unfold frsL at h2; omega]
theorem frsL_at {s h b c p : Int} (hh : 1 ≤ h) (hhs : h ≤ s) (l : List Int) (i : Nat) (hi : i < (frsL s h b c p l).length) : (frsL s h b c p l).getD i [] = frameF s h b c p (((flatL p 0 l).drop (i * h.toNat)).take s.toNat) :=
  (cutA_what (s := s) (h := h) (b := b) (c := c) (p := p) hh hhs _ (flatL p 0 l) (Nat.le_refl _)).2.2 i hi
theorem rssL_len {s h b c p : Int} (hs : 1 ≤ s.toNat) (hh : 1 ≤ h.toNat) (l : List Int) : (rssL s h b c p l).length < s.toNat := cutA_rest hs hh _ _ (Nat.le_refl _)
theorem one_more {s h b c p : Int} (hh : 1 ≤ h) (hhs : h ≤ s) (L : List Int) (x : Int) (T : List (List Int)) (hT : frsL s h b c p (L ++ [x]) = frsL s h b c p L ++ T) : T.length ≤ 1 := by
  have h1 := frsL_len (s := s) (h := h) (b := b) (c := c) (p := p) hh hhs (L ++ [x])
  have h2 := frsL_len (s := s) (h := h) (b := b) (c := c) (p := p) hh hhs L
  have h3 := framesI_mono1 (s := s) (h := h) (n := (L.length : Int)) hh (by omega)
  rw [hT, List.length_append, List.length_append] at h1
  have e : (((L.length + [x].length : Nat)) : Int) = (L.length : Int) + 1 := by simp
  rw [e] at h1
  omega


theorem framesI_in {s h n : Int} (hs : 0 ≤ s) (hh : 1 ≤ h) (h1 : n ≤ 4611686018427387904) : 0 ≤ framesI s h n ∧ framesI s h n ≤ 4611686018427387905 := by
  unfold framesI
  split
  · omega
  · rename_i hn
    have a : 0 ≤ (n - s) / h := Int.ediv_nonneg (by omega) (by omega)
    have b : (n - s) / h ≤ n - s := Int.ediv_le_self _ (by omega)
    omega
theorem put_Rj {wc : World} {g j b0 b1 : Nat} {V X : Value} {l : List Int} (h : (Kd.int .i64).R 3 wc b1 (fun _ => True) V l) (hb : b0 ≤ b1) (hg : g < b1) : (Kd.int .i64).R 3 (wc.setCell ⟨g, j, none⟩ X) b0 (fun _ => True) V l := by
  have h1 : (Kd.int .i64).R 3 wc b1 (fun q => b1 ≤ q) V l := Kd.R_mono (Kd.R_bound h) (fun q hq => hq.2.1)
  exact Kd.R_lower (Kd.R_mono (Kd.R_far h1 (p := ⟨g, j, none⟩) (fun q hq => by show q ≠ g; omega) X) (fun _ _ => trivial)) hb
set_option maxHeartbeats 16000000 in
set_option maxRecDepth 100000 in
theorem reset_go (g : Nat) (s h b c p cnt last : Int) (v : Value) (w : World) (hb : w.heap[g]? = some (.cells (strC s h b c p cnt last v) 86 (0, 0))) :
    Calls Tryd.prog 35 #[.pointer (some ⟨g, 0, none⟩)] w fun e w' => e = .returned (.tuple #[]) ∧ w'.heap[g]? = some (.cells (strC s h b c p 0 0 (.slice none 0 0)) 86 (0, 0)) ∧ Keeps w w' g none := by
  have hu49 := Tryd.underlying49
  have hu86 := Tryd.underlying86
  have hu84 := Tryd.underlying84
  have hu39 := Tryd.underlying39
  have hgw : g < w.heap.size := blk_lt hb
  have BK : Aside0 (w.heap[g]? = some (.cells #[.int .i64 s, .int .i64 h, .int .i64 b, .int .i64 c, .int .i64 p, .int .i64 cnt, .int .i64 last, v] 86 (0, 0))) := ⟨hb⟩
  have q5 := blk_cell BK.out 5
  have q6 := blk_cell BK.out 6
  have q7 := blk_cell BK.out 7
  have f5 := blk_frozen BK.out 5
  have f6 := blk_frozen BK.out 6
  have f7 := blk_frozen BK.out 7
  clear hb
  go_enter Tryd.func35, Tryd.ntmps35
  go_wp2
  go_end0
  refine ⟨rfl, ?_, ?_⟩
  · exact (blk_set (blk_set (blk_set BK.out 5 _) 6 _) 7 _).trans rfl
  · exact (((Keeps.refl w g none).set 5 _).set 6 _).set 7 _
set_option maxHeartbeats 16000000 in
set_option maxRecDepth 100000 in
theorem tail_go (g b0 : Nat) (s h b c p cnt last : Int) (v : Value) (rest : List Int) (w : World) (hS : StrAt w g b0 s h b c p cnt last v rest) (hr : rest.length ≤ 1000000) :
    Calls Tryd.prog 36 #[.pointer (some ⟨g, 0, none⟩)] w fun e w' => ∃ A1 c1, e = .returned (.agg #[.int .i64 cnt, .int .i64 last, .slice A1 rest.length c1]) ∧ Aside0 ((Kd.int .i64).R 3 w' w.heap.size (fun _ => True) (.slice A1 rest.length c1) rest) ∧ Aside0 (Below w.heap.size w w') := by
  have hu49 := Tryd.underlying49
  have hu86 := Tryd.underlying86
  have hu84 := Tryd.underlying84
  have hu39 := Tryd.underlying39
  have hu60 := Tryd.underlying60
  obtain ⟨Av, cv, hv, _, _⟩ := Kd.R_reads hS.2.2
  subst hv
  have hgw : g < w.heap.size := blk_lt hS.1
  have BK : Aside0 (w.heap[g]? = some (.cells #[.int .i64 s, .int .i64 h, .int .i64 b, .int .i64 c, .int .i64 p, .int .i64 cnt, .int .i64 last, .slice Av rest.length cv] 86 (0, 0))) := ⟨hS.1⟩
  have HC := Aside0.mk (R_C hS.2.2)
  obtain ⟨W0, hW0⟩ : ∃ W, (w.alloc (.cells #[.int .i64 0, .int .i64 0, .slice none 0 0] 60)).drew = W := ⟨_, rfl⟩
  have hb0 : Below w.heap.size w W0 := by rw [← hW0]; exact below_drew (below_alloc (Below.refl _ _) _)
  have HCL : Aside0 (Calls Tryd.prog 66 #[.slice Av rest.length cv] ((w.alloc (.cells #[.int .i64 0, .int .i64 0, .slice none 0 0] 60)).drew) fun e w' => ∃ A1 c1, e = .returned (.slice A1 rest.length c1) ∧ Aside0 ((Kd.int .i64).R 3 w' w.heap.size (fun q => w.heap.size < q) (.slice A1 rest.length c1) rest) ∧ Aside0 (Below w.heap.size w w') ∧ Aside0 (w'.heap[w.heap.size]? = some (.cells #[.int .i64 0, .int .i64 0, .slice none 0 0] 60 (0, 0)))) := ⟨by
    have hx : W0.heap[w.heap.size]? = some (.cells #[.int .i64 0, .int .i64 0, .slice none 0 0] 60 (0, 0)) := by rw [← hW0]; exact heap_alloc_new w _
    have hlt : w.heap.size < W0.heap.size := blk_lt hx
    rw [hW0]
    refine (clone_go _ _ _ _ W0 rfl (Kd.C_below HC.out hb0) hr).mono ?_
    rintro e_ w' ⟨v, rfl, r, q⟩
    obtain ⟨A1, c1, hv, _, _⟩ := Kd.R_reads r
    subst hv
    exact ⟨A1, c1, rfl, ⟨Kd.R_lower (Kd.R_mono (Kd.R_bound r) (fun k hk => Nat.lt_of_lt_of_le hlt hk.2.1)) (Nat.le_of_lt hlt)⟩, ⟨below_then hb0 (Nat.le_of_lt hlt) q⟩, ⟨blk_below hx q⟩⟩⟩
  have q5 := blk_cell BK.out 5
  have q6 := blk_cell BK.out 6
  have q7 := blk_cell BK.out 7
  clear hS hr hW0 hb0
  go_enter Tryd.func36, Tryd.ntmps36
  go_wp2
  go_region_law (first
    | (go_simp; go_at_call 66; (with_reducible refine HCL.out.mono ?_); rintro e_ wc ⟨A1, c1, rfl, RC, HBc, HX⟩; have BKc := Aside0.mk (blk_below BK.out HBc.out); have r5 := blk_cell BKc.out 5; have r6 := blk_cell BKc.out 6; have r7 := blk_cell BKc.out 7; have u0 := blk_cell HX.out 0; have u1 := blk_cell HX.out 1; have u2 := blk_cell HX.out 2; have g0 := blk_frozen HX.out 0; have g1 := blk_frozen HX.out 1; have g2 := blk_frozen HX.out 2))
  all_goals
    go_wp2
    refine bodyPost_ret (results_cell_row rfl _ _ w.heap.size 60 #[.int .i64 cnt, .int .i64 last, .slice A1 rest.length c1] (0, 0) _ rfl ((blk_set (blk_set (blk_set HX.out 0 _) 1 _) 2 _).trans rfl) hu60 rfl (by kernel_rfl)) rfl ?_
    refine ⟨A1, c1, rfl, ⟨?_⟩, ⟨?_⟩⟩
    · exact Kd.R_mono (Kd.R_far (Kd.R_far (Kd.R_far RC.out (p := ⟨w.heap.size, 0, none⟩) (fun q hq => by show q ≠ w.heap.size; omega) _) (p := ⟨w.heap.size, 1, none⟩) (fun q hq => by show q ≠ w.heap.size; omega) _) (p := ⟨w.heap.size, 2, none⟩) (fun q hq => by show q ≠ w.heap.size; omega) _) (fun _ _ => trivial)
    · exact below_set (below_set (below_set HBc.out (Nat.le_refl _)) (Nat.le_refl _)) (Nat.le_refl _)
set_option maxHeartbeats 16000000 in
set_option maxRecDepth 100000 in
theorem frames_go (g : Nat) (s h b c p cnt last n : Int) (v : Value) (w : World) (hb : w.heap[g]? = some (.cells (strC s h b c p cnt last v) 86 (0, 0))) (hs : 0 ≤ s ∧ s ≤ 1000) (hh : 1 ≤ h ∧ h ≤ 1000) (h0 : 0 ≤ n) (h1 : n ≤ 4611686018427387904) :
    Calls Tryd.prog 96 #[.pointer (some ⟨g, 0, none⟩), .int .i64 n] w fun e w' => e = .returned (.int .i64 (framesI s h n)) ∧ Aside0 (Below w.heap.size w w') := by
  have hu98 := Tryd.underlying98
  have hu86 := Tryd.underlying86
  have hu84 := Tryd.underlying84
  have hu39 := Tryd.underlying39
  have hgw : g < w.heap.size := blk_lt hb
  have BK : Aside0 (w.heap[g]? = some (.cells #[.int .i64 s, .int .i64 h, .int .i64 b, .int .i64 c, .int .i64 p, .int .i64 cnt, .int .i64 last, v] 86 (0, 0))) := ⟨hb⟩
  have q0 := blk_cell BK.out 0
  have q1 := blk_cell BK.out 1
  clear hb
  by_cases hlt : n < s
  · have hF : Aside0 (framesI s h n = 0) := ⟨by unfold framesI; rw [if_pos hlt]⟩
    have d0 : decide (n < s) = true := decide_eq_true hlt
    go_enter Tryd.func96, Tryd.ntmps96
    go_wp2
    go_ret
    exact ⟨by rw [hF.out]; rfl, ⟨by repeat (first | exact Below.refl _ _ | apply pw_below_drewN)⟩⟩
  · have hF : Aside0 (framesI s h n = (n - s) / h + 1) := ⟨by unfold framesI; rw [if_neg hlt]⟩
    have d0 : decide (n < s) = false := decide_eq_false hlt
    obtain ⟨q, hq⟩ : ∃ q, (n - s) / h = q := ⟨_, rfl⟩
    have e1 : IntKind.i64.wrap (n - s) = n - s := by rw [IntKind.wrap_i64]; omega
    have e2 : Int.tdiv (n - s) h = q := by rw [Int.tdiv_eq_ediv_of_nonneg (by omega), hq]
    have a0 : 0 ≤ q := by rw [← hq]; exact Int.ediv_nonneg (by omega) (by omega)
    have a1 : q ≤ n - s := by rw [← hq]; exact Int.ediv_le_self _ (by omega)
    have e3 : IntKind.i64.wrap q = q := by rw [IntKind.wrap_i64]; omega
    have e4 : IntKind.i64.wrap (q + 1) = q + 1 := by rw [IntKind.wrap_i64]; omega
    have z0 : (h == 0) = false := by rw [beq_eq_false_iff_ne]; omega
    have z1 : ¬ h = 0 := by omega
    have HQ := Aside0.mk hq
    clear hq hlt
    go_enter Tryd.func96, Tryd.ntmps96
    go_wp2
    go_quiet (fail)
    go_wp2
    go_ret
    exact ⟨by rw [hF.out, HQ.out]; rfl, ⟨by repeat (first | exact Below.refl _ _ | apply pw_below_drewN)⟩⟩
set_option maxHeartbeats 16000000 in
set_option maxRecDepth 100000 in
theorem needed_go (g : Nat) (s h b c p cnt last n : Int) (v : Value) (w : World) (hb : w.heap[g]? = some (.cells (strC s h b c p cnt last v) 86 (0, 0))) (hs : 0 ≤ s ∧ s ≤ 1000) (hh : 1 ≤ h ∧ h ≤ 1000) (hhs : h ≤ s) (h0 : 0 ≤ n) (h1 : n ≤ 4611686018427387904) :
    Calls Tryd.prog 67 #[.pointer (some ⟨g, 0, none⟩), .int .i64 n] w fun e w' => e = .returned (.int .i64 (neededI s h n)) ∧ Aside0 (Below w.heap.size w w') := by
  have hu98 := Tryd.underlying98
  have hu86 := Tryd.underlying86
  have hu84 := Tryd.underlying84
  have hu39 := Tryd.underlying39
  have hgw : g < w.heap.size := blk_lt hb
  have BK : Aside0 (w.heap[g]? = some (.cells #[.int .i64 s, .int .i64 h, .int .i64 b, .int .i64 c, .int .i64 p, .int .i64 cnt, .int .i64 last, v] 86 (0, 0))) := ⟨hb⟩
  have hfm := framesI_mul (s := s) (h := h) (n := n) hs.1 hh.1 hhs h0
  obtain ⟨q, hq⟩ : ∃ q, framesI s h n = q := ⟨_, rfl⟩
  obtain ⟨u, hu⟩ : ∃ u, q * h = u := ⟨_, rfl⟩
  rw [hq, hu] at hfm
  have HFR : Aside0 (∀ W : World, W.heap[g]? = some (.cells #[.int .i64 s, .int .i64 h, .int .i64 b, .int .i64 c, .int .i64 p, .int .i64 cnt, .int .i64 last, v] 86 (0, 0)) → Calls Tryd.prog 96 #[.pointer (some ⟨g, 0, none⟩), .int .i64 n] W fun e w' => e = .returned (.int .i64 q) ∧ Aside0 (Below W.heap.size W w')) := ⟨fun W hbk => by
    rw [← hq]
    exact frames_go g s h b c p cnt last n v W hbk hs hh h0 h1⟩
  have e1 : IntKind.i64.wrap (q * h) = u := by rw [hu, IntKind.wrap_i64]; omega
  have e2 : IntKind.i64.wrap (n - u) = n - u := by rw [IntKind.wrap_i64]; omega
  have HN : Aside0 (neededI s h n = n - u) := ⟨by unfold neededI; rw [hq, hu]⟩
  have q1 := blk_cell BK.out 1
  clear hb hq hu hfm
  have ST0 : True := trivial
  go_enter Tryd.func67, Tryd.ntmps67
  go_wp2
  go_region_with (first
    | (go_at_call 96; clear ST0; refine (HFR.out _ ?hc).mono ?_; (case hc => first | exact BK.out | exact blk_drewN BK.out _); rintro e_ w1 ⟨rfl, B1⟩; have hb := below_then (show Below w.heap.size w _ by repeat (first | exact Below.refl _ _ | apply below_alloc | apply pw_below_drewN | apply below_drew1)) (by simp) B1.out; have BK1 := Aside0.mk (blk_below BK.out hb); have HB1 := Aside0.mk hb; clear hb B1; have r1 := blk_cell BK1.out 1))
  all_goals
    go_wp2
    go_ret
    exact ⟨by rw [HN.out]; rfl, ⟨by repeat (first | exact HB1.out | apply pw_below_drewN)⟩⟩

theorem drawn_trans {w w1 w2 : World} (h : Drawn0 w w1) (k : Drawn0 w1 w2) : Drawn0 w w2 := by
  obtain ⟨m, rfl⟩ := h
  obtain ⟨n, rfl⟩ := k
  exact ⟨⟨m + n, by rw [World.drewN_drewN]⟩⟩
theorem one_LVQ (x : Int) (w : World) : Calls Tryd.prog 74 #[.int .i64 x] w fun e w' => e = .returned (.bool (badLV x)) ∧ Drawn0 w w' := by
  unfold badLV
  cases h : decide (x < -65536)
  all_goals
    go_enter Tryd.func74, Tryd.ntmps74
    go_wp2
    go_ret
    exact ⟨rfl, by repeat (first | exact Drawn0.refl _ | apply Drawn0.step)⟩
set_option maxHeartbeats 16000000 in
theorem index_LVQ (A : Option Addr) (n c : Nat) (l : List Int) (w : World) (hl : l.length = n) (hC : (Kd.int .i64).C w A n l) :
    Calls Tryd.prog 95 #[.slice A n c, .func (.func 74) #[] #[]] w fun e w' => ∃ r : Int, e = .returned (.int .i64 r) ∧ decide (0 ≤ r) = l.any badLV ∧ Drawn0 w w' := by
  have HC := Aside0.mk hC
  have hmax : n ≤ 9223372036854775807 := Kd.C_max hC
  have HB0 : Aside0 (Drawn0 w w) := ⟨Drawn0.refl _⟩
  have HL := Aside0.mk hl
  clear hC hl
  go_enter Tryd.func95, Tryd.ntmps95
  go_wp2
  go_loopw [5, 8] (fun v5 v wr => ∃ (i : Nat), i ≤ n ∧ v = .int .i64 (i : Int) ∧ Aside0 (∀ j, j < i → badLV (l.getD j 0) = false) ∧ Aside0 (Drawn0 w wr)) (fun _ v _ => n - (intOf v).toNat)
  case atStart => exact ⟨0, by omega, rfl, ⟨fun j hj => by omega⟩, HB0⟩
  case round =>
    clear HB0
    obtain ⟨i, hi, rfl, HJ, HB⟩ := hrel
    by_cases hlt : i < n
    · have hC1 := Kd.C_below HC.out HB.out.below
      obtain ⟨ad, rfl, hcs⟩ := sp_ad hC1 (by omega)
      have k0 := hcs i hlt
      obtain ⟨x, hx⟩ : ∃ x, l.getD i 0 = x := ⟨_, rfl⟩
      rw [hx] at k0
      have HX := Aside0.mk hx
      have HM : Aside0 (x ∈ l) := ⟨by rw [← hx, List.getD_eq_getElem?_getD, List.getElem?_eq_getElem (by rw [HL.out]; exact hlt)]; exact List.getElem_mem _⟩
      have j0 : (0 : Int) ≤ (i : Int) := by omega
      have j1 : (i : Int) < (n : Int) := by omega
      clear hcs hC1 hx
      cases hb : badLV x
      · have HV := Aside0.mk hb
        clear hb
        go_wp2_with (go_at_call 74; (with_reducible refine (one_LVQ x _).mono ?_); rintro e_ w1 ⟨rfl, B1⟩; rw [HV.out]; have HB1 := Aside0.mk (drawn_trans HB.out B1); clear B1)
        go_roundw
        case rel =>
          refine ⟨i + 1, by omega, by go_num, ⟨fun j hj => ?_⟩, HB1⟩
          by_cases e : j = i
          · subst e; rw [HX.out]; exact HV.out
          · exact HJ.out j (by omega)
        case measure => simp [intOf]; omega
      · have HV := Aside0.mk hb
        clear hb
        go_wp2_with (go_at_call 74; (with_reducible refine (one_LVQ x _).mono ?_); rintro e_ w1 ⟨rfl, B1⟩; rw [HV.out]; have HB1 := Aside0.mk (drawn_trans HB.out B1); clear B1)
        go_ret
        refine ⟨_, rfl, ?_, HB1.out⟩
        rw [List.any_eq_true.2 ⟨x, HM.out, HV.out⟩, decide_eq_true j0]
    · obtain rfl : n = i := by omega
      go_wp2
      go_ret
      refine ⟨_, rfl, ?_, HB.out⟩
      have : l.any badLV = false := by
        rw [List.any_eq_false]
        intro x hx
        obtain ⟨k, hk, rfl⟩ := List.getElem_of_mem hx
        have := HJ.out k (by rw [← HL.out]; exact hk)
        rw [List.getD_eq_getElem?_getD, List.getElem?_eq_getElem hk] at this
        simp at this ⊢
        exact this
      rw [this]
      exact decide_eq_false (by decide)
theorem contains_LVQ (A : Option Addr) (n c : Nat) (l : List Int) (w : World) (hl : l.length = n) (hC : (Kd.int .i64).C w A n l) (b : Bool) (hb : l.any badLV = b) :
    Calls Tryd.prog 63 #[.slice A n c, .func (.func 74) #[] #[]] w fun e w' => e = .returned (.bool b) ∧ Drawn0 w w' := by
  have HI := Aside0.mk (index_LVQ A n c l w hl hC)
  rw [hb] at HI
  clear hl hC hb
  go_enter Tryd.func63, Tryd.ntmps63
  go_wp2_with (go_at_call 95; (with_reducible refine HI.out.mono ?_); rintro e_ w1 ⟨r, rfl, hr, B1⟩; have HB1 := Aside0.mk B1; clear B1)
  go_ret
  exact ⟨rfl, HB1.out⟩
theorem level_q (A : Option Addr) (n c : Nat) (l : List Int) (b : Bool) (w : World) (hl : l.length = n) (hC : (Kd.int .i64).C w A n l) (hb : lvl l = b) :
    Calls Tryd.prog 48 #[.slice A n c] w fun e w' => e = .returned (.bool b) ∧ Drawn0 w w' := by
  have HI := Aside0.mk (contains_LVQ A n c l w hl hC (!b) (by rw [← hb, lvl, Bool.not_not]))
  clear hl hC hb
  go_enter Tryd.func48, Tryd.ntmps48
  go_wp2_with (go_at_call 63; (with_reducible refine HI.out.mono ?_); rintro e_ w1 ⟨rfl, B1⟩; have HB1 := Aside0.mk B1; clear B1)
  go_ret
  exact ⟨by first | rfl | simp, HB1.out⟩
set_option maxHeartbeats 16000000 in
set_option maxRecDepth 100000 in
theorem frames_q (g : Nat) (s h b c p cnt last n : Int) (v : Value) (w : World) (hb : w.heap[g]? = some (.cells (strC s h b c p cnt last v) 86 (0, 0))) (hs : 0 ≤ s ∧ s ≤ 1000) (hh : 1 ≤ h ∧ h ≤ 1000) (h0 : 0 ≤ n) (h1 : n ≤ 4611686018427387904) :
    Calls Tryd.prog 96 #[.pointer (some ⟨g, 0, none⟩), .int .i64 n] w fun e w' => e = .returned (.int .i64 (framesI s h n)) ∧ Drawn0 w w' := by
  have hu98 := Tryd.underlying98
  have hu86 := Tryd.underlying86
  have hu84 := Tryd.underlying84
  have hu39 := Tryd.underlying39
  have hgw : g < w.heap.size := blk_lt hb
  have BK : Aside0 (w.heap[g]? = some (.cells #[.int .i64 s, .int .i64 h, .int .i64 b, .int .i64 c, .int .i64 p, .int .i64 cnt, .int .i64 last, v] 86 (0, 0))) := ⟨hb⟩
  have q0 := blk_cell BK.out 0
  have q1 := blk_cell BK.out 1
  clear hb
  by_cases hlt : n < s
  · have hF : Aside0 (framesI s h n = 0) := ⟨by unfold framesI; rw [if_pos hlt]⟩
    have d0 : decide (n < s) = true := decide_eq_true hlt
    go_enter Tryd.func96, Tryd.ntmps96
    go_wp2
    go_ret
    exact ⟨by rw [hF.out]; rfl, by repeat (first | exact Drawn0.refl _ | apply Drawn0.step)⟩
  · have hF : Aside0 (framesI s h n = (n - s) / h + 1) := ⟨by unfold framesI; rw [if_neg hlt]⟩
    have d0 : decide (n < s) = false := decide_eq_false hlt
    obtain ⟨q, hq⟩ : ∃ q, (n - s) / h = q := ⟨_, rfl⟩
    have e1 : IntKind.i64.wrap (n - s) = n - s := by rw [IntKind.wrap_i64]; omega
    have e2 : Int.tdiv (n - s) h = q := by rw [Int.tdiv_eq_ediv_of_nonneg (by omega), hq]
    have a0 : 0 ≤ q := by rw [← hq]; exact Int.ediv_nonneg (by omega) (by omega)
    have a1 : q ≤ n - s := by rw [← hq]; exact Int.ediv_le_self _ (by omega)
    have e3 : IntKind.i64.wrap q = q := by rw [IntKind.wrap_i64]; omega
    have e4 : IntKind.i64.wrap (q + 1) = q + 1 := by rw [IntKind.wrap_i64]; omega
    have z0 : (h == 0) = false := by rw [beq_eq_false_iff_ne]; omega
    have z1 : ¬ h = 0 := by omega
    have HQ := Aside0.mk hq
    clear hq hlt
    go_enter Tryd.func96, Tryd.ntmps96
    go_wp2
    go_quiet (fail)
    go_wp2
    go_ret
    exact ⟨by rw [hF.out, HQ.out]; rfl, by repeat (first | exact Drawn0.refl _ | apply Drawn0.step)⟩
set_option maxHeartbeats 16000000 in
set_option maxRecDepth 100000 in
theorem needed_q (g : Nat) (s h b c p cnt last n : Int) (v : Value) (w : World) (hb : w.heap[g]? = some (.cells (strC s h b c p cnt last v) 86 (0, 0))) (hs : 0 ≤ s ∧ s ≤ 1000) (hh : 1 ≤ h ∧ h ≤ 1000) (hhs : h ≤ s) (h0 : 0 ≤ n) (h1 : n ≤ 4611686018427387904) :
    Calls Tryd.prog 67 #[.pointer (some ⟨g, 0, none⟩), .int .i64 n] w fun e w' => e = .returned (.int .i64 (neededI s h n)) ∧ Drawn0 w w' := by
  have hu98 := Tryd.underlying98
  have hu86 := Tryd.underlying86
  have hu84 := Tryd.underlying84
  have hu39 := Tryd.underlying39
  have hgw : g < w.heap.size := blk_lt hb
  have BK : Aside0 (w.heap[g]? = some (.cells #[.int .i64 s, .int .i64 h, .int .i64 b, .int .i64 c, .int .i64 p, .int .i64 cnt, .int .i64 last, v] 86 (0, 0))) := ⟨hb⟩
  have hfm := framesI_mul (s := s) (h := h) (n := n) hs.1 hh.1 hhs h0
  obtain ⟨q, hq⟩ : ∃ q, framesI s h n = q := ⟨_, rfl⟩
  obtain ⟨u, hu⟩ : ∃ u, q * h = u := ⟨_, rfl⟩
  rw [hq, hu] at hfm
  have HFR : Aside0 (∀ W : World, W.heap[g]? = some (.cells #[.int .i64 s, .int .i64 h, .int .i64 b, .int .i64 c, .int .i64 p, .int .i64 cnt, .int .i64 last, v] 86 (0, 0)) → Calls Tryd.prog 96 #[.pointer (some ⟨g, 0, none⟩), .int .i64 n] W fun e w' => e = .returned (.int .i64 q) ∧ Drawn0 W w') := ⟨fun W hbk => by
    rw [← hq]
    exact frames_q g s h b c p cnt last n v W hbk hs hh h0 h1⟩
  have e1 : IntKind.i64.wrap (q * h) = u := by rw [hu, IntKind.wrap_i64]; omega
  have e2 : IntKind.i64.wrap (n - u) = n - u := by rw [IntKind.wrap_i64]; omega
  have HN : Aside0 (neededI s h n = n - u) := ⟨by unfold neededI; rw [hq, hu]⟩
  have q1 := blk_cell BK.out 1
  clear hb hq hu hfm
  have ST0 : True := trivial
  go_enter Tryd.func67, Tryd.ntmps67
  go_wp2
  go_quiet (first
    | (go_at_call 96; refine quiet_d (HFR.out _ ?hc); (case hc => exact blk_drewN BK.out _)))
  go_wp2
  go_ret
  exact ⟨by rw [HN.out]; rfl, by repeat (first | exact Drawn0.refl _ | apply Drawn0.step)⟩

def setOk (s h cnt last : Int) (rest : List Int) : Bool := decide (0 ≤ cnt) && decide (cnt ≤ 4611686018427387904) && (decide (-32768 ≤ last) && decide (last < 32768)) && !(decide (cnt = 0) && !(decide (last = 0))) && decide ((rest.length : Int) = neededI s h cnt) && lvl rest
set_option maxHeartbeats 32000000 in
set_option maxRecDepth 100000 in
theorem set_pos (A : Option Addr) (c0 n g b0 : Nat) (s h b c p cnt last ct lt : Int) (v : Value) (rest xs : List Int) (w : World) (hS : StrAt w g b0 s h b c p cnt last v rest) (hs : 0 ≤ s ∧ s ≤ 1000) (hh : 1 ≤ h ∧ h ≤ 1000) (hhs : h ≤ s) (hl : xs.length = n) (hC : (Kd.int .i64).C w A n xs) (hn : n ≤ 1000000) (hok : setOk s h ct lt xs = true) (z0 : ¬ ct = 0) :
    Calls Tryd.prog 38 #[.pointer (some ⟨g, 0, none⟩), .agg #[.int .i64 ct, .int .i64 lt, .slice A n c0]] w fun e w' => ∃ v', e = .returned (.int .i64 0) ∧ StrAt w' g b0 s h b c p ct lt v' xs ∧ Keeps w w' g none ∧ (∀ k, v'.ownBlock = some k → w.heap.size ≤ k) := by
  simp only [setOk, Bool.and_eq_true, decide_eq_true_eq] at hok
  obtain ⟨⟨⟨⟨⟨a0, a1⟩, a2, a3⟩, a4⟩, a5⟩, a6⟩ := hok
  have hu49 := Tryd.underlying49
  have hu98 := Tryd.underlying98
  have hu86 := Tryd.underlying86
  have hu84 := Tryd.underlying84
  have hu39 := Tryd.underlying39
  have hu60 := Tryd.underlying60
  have hgw : g < w.heap.size := blk_lt hS.1
  have hb0g : b0 ≤ g := hS.2.1
  have BK : Aside0 (w.heap[g]? = some (.cells #[.int .i64 s, .int .i64 h, .int .i64 b, .int .i64 c, .int .i64 p, .int .i64 cnt, .int .i64 last, v] 86 (0, 0))) := ⟨hS.1⟩
  have HC := Aside0.mk hC
  have HXL := Aside0.mk hl
  have HND : Aside0 (∀ W : World, W.heap[g]? = some (.cells #[.int .i64 s, .int .i64 h, .int .i64 b, .int .i64 c, .int .i64 p, .int .i64 cnt, .int .i64 last, v] 86 (0, 0)) → Calls Tryd.prog 67 #[.pointer (some ⟨g, 0, none⟩), .int .i64 ct] W fun e w' => e = .returned (.int .i64 (n : Int)) ∧ Drawn0 W w') := ⟨fun W hbk => by
    rw [← hl, a5]
    exact needed_q g s h b c p cnt last ct v W hbk hs hh hhs a0 a1⟩
  have HSM : Aside0 (front_sample.f lt = some true) := ⟨by unfold front_sample.f; split <;> rename_i h <;> simp <;> omega⟩
  have HLV : Aside0 (∀ W : World, (Kd.int .i64).C W A n xs → Calls Tryd.prog 48 #[.slice A n c0] W fun e w' => e = .returned (.bool true) ∧ Drawn0 W w') := ⟨fun W hc => level_q A n c0 xs true W hl hc a6⟩
  have HCL : Aside0 (∀ W : World, (Kd.int .i64).C W A n xs → Calls Tryd.prog 66 #[.slice A n c0] W fun e w' => ∃ v, e = .returned v ∧ Aside0 ((Kd.int .i64).R 3 w' W.heap.size (fun _ => True) v xs) ∧ Aside0 (Below W.heap.size W w')) := ⟨fun W hc => (clone_go _ _ _ _ W hl hc hn).mono fun e w' ⟨v, a, r, q⟩ => ⟨v, a, ⟨r⟩, ⟨q⟩⟩⟩
  have d0 : decide (ct < 0) = false := decide_eq_false (by omega)
  have d1 : decide (4611686018427387904 < ct) = false := decide_eq_false (by omega)
  clear hS hC hl hn a4 a5 a6
  have ST0 : True := trivial
  go_enter Tryd.func38, Tryd.ntmps38
  go_wp2_with (first
    | ((with_reducible refine gate_dst (N := 3) rfl ?_); refine box_event ?hg (N := 3) ?hd (cs := #[.int .i64 ct, .int .i64 lt, .slice A n c0]) (t := 60) ?hr ?_; (case hd => rfl); (case hg => first | rfl | exact wanted_on rfl rfl rfl (by first | assumption | rfl | (simp [*]; done))); (case hr => first | (go_simp; done) | (go_simp; rfl)); intro gb hgb w1 hbox hb; subst hgb; have BX1 := Aside0.mk hbox; have HB1 := Aside0.mk hb; have HC1 := Aside0.mk (Kd.C_below HC.out hb); have BK1 := Aside0.mk (blk_below BK.out hb); have p0 := blk_cell BX1.out 0; have p1 := blk_cell BX1.out 1; have p2 := blk_cell BX1.out 2; clear ST0 hbox hb; have ST2 : True := trivial))
  go_quiet (first
    | (go_at_call 65; exact quiet_d (front_sample.calls _ _ _ HSM.out))
    | (go_at_call 67; refine quiet_d (HND.out _ ?hc); (case hc => exact blk_drewN BK1.out _))
    | (go_at_call 48; refine quiet_d (HLV.out _ ?hc); (case hc => repeat (first | exact HC1.out | refine Kd.C_drewN ?_ _))))
  go_wp2
  have HCK : Aside0 (∀ m : Nat, Calls Tryd.prog 66 #[.slice A n c0] (w1.drewN m) fun e w' => ∃ AC cC, e = .returned (.slice AC n cC) ∧ Aside0 ((Kd.int .i64).R 3 w' w.heap.size (fun _ => True) (.slice AC n cC) xs) ∧ Aside0 (Below w.heap.size w w') ∧ Aside0 (w'.heap[g]? = some (.cells #[.int .i64 s, .int .i64 h, .int .i64 b, .int .i64 c, .int .i64 p, .int .i64 cnt, .int .i64 last, v] 86 (0, 0))) ∧ Aside0 (w'.heap[w.heap.size]? = some (.cells #[.int .i64 ct, .int .i64 lt, .slice A n c0] 60 (0, 0)))) := ⟨fun m => by
    refine (HCL.out (w1.drewN m) (Kd.C_drewN HC1.out m)).mono ?_
    rintro e_ wc ⟨vC, rfl, RC, BC⟩
    obtain ⟨AC, cC, hvC, _, _⟩ := Kd.R_reads RC.out
    rw [HXL.out] at hvC
    subst hvC
    have hb := below_then (show Below w1.heap.size w1 (w1.drewN m) by exact pw_below_drewN (Below.refl _ _) _) (Nat.le_refl _) BC.out
    exact ⟨AC, cC, rfl, ⟨Kd.R_lower RC.out (Nat.le_trans HB1.out.size (Nat.le_refl _))⟩, ⟨below_step HB1.out hb⟩, ⟨blk_below BK1.out hb⟩, ⟨blk_below BX1.out hb⟩⟩⟩
  have hne0 : ¬ w.heap.size = g := by omega
  have hne1 : ¬ g = w.heap.size := by omega
  clear HB1 HC1 BK1 HCL
  go_region_law (first
    | (go_simp; go_at_call 66; (with_reducible refine (HCK.out _).mono ?_); rintro e_ wc ⟨AC, cC, rfl, RC, HBc, BKc, BXc⟩; have r5 := blk_cell BKc.out 5; have r6 := blk_cell BKc.out 6; have r7 := blk_cell BKc.out 7; have f5 := blk_frozen BKc.out 5; have f6 := blk_frozen BKc.out 6; have f7 := blk_frozen BKc.out 7; have p0c := blk_cell BXc.out 0; have p1c := blk_cell BXc.out 1; have p2c := blk_cell BXc.out 2; have hgwc : g < wc.heap.size := blk_lt BKc.out))
  all_goals
    go_wp2
    go_ret
    refine ⟨.slice AC n cC, rfl, ⟨?_, hb0g, ?_⟩, ?_, fun q hq => Kd.R_base RC.out q hq⟩
    · exact (blk_set (blk_set (blk_set BKc.out 5 _) 6 _) 7 _).trans rfl
    · exact Kd.R_lower (put_Rj (put_Rj (put_Rj RC.out (Nat.le_refl _) hgw) (Nat.le_refl _) hgw) (Nat.le_refl _) hgw) (Nat.le_trans hb0g (Nat.le_of_lt hgw))
    · exact ((((Keeps.refl w g none).below HBc.out).set 5 _).set 6 _).set 7 _
-- GENERATED BELOW
set_option maxHeartbeats 32000000 in
set_option maxRecDepth 100000 in
theorem set_zero (A : Option Addr) (c0 n g b0 : Nat) (s h b c p cnt last : Int) (v : Value) (rest xs : List Int) (w : World) (hS : StrAt w g b0 s h b c p cnt last v rest) (hs : 0 ≤ s ∧ s ≤ 1000) (hh : 1 ≤ h ∧ h ≤ 1000) (hhs : h ≤ s) (hl : xs.length = n) (hC : (Kd.int .i64).C w A n xs) (hn : n ≤ 1000000) (hok : setOk s h 0 0 xs = true) :
    Calls Tryd.prog 38 #[.pointer (some ⟨g, 0, none⟩), .agg #[.int .i64 0, .int .i64 0, .slice A n c0]] w fun e w' => ∃ v', e = .returned (.int .i64 0) ∧ StrAt w' g b0 s h b c p 0 0 v' xs ∧ Keeps w w' g none ∧ (∀ k, v'.ownBlock = some k → w.heap.size ≤ k) := by
  simp only [setOk, Bool.and_eq_true, decide_eq_true_eq] at hok
  obtain ⟨⟨⟨⟨⟨a0, a1⟩, a2, a3⟩, a4⟩, a5⟩, a6⟩ := hok
  have hu49 := Tryd.underlying49
  have hu98 := Tryd.underlying98
  have hu86 := Tryd.underlying86
  have hu84 := Tryd.underlying84
  have hu39 := Tryd.underlying39
  have hu60 := Tryd.underlying60
  have hgw : g < w.heap.size := blk_lt hS.1
  have hb0g : b0 ≤ g := hS.2.1
  have BK : Aside0 (w.heap[g]? = some (.cells #[.int .i64 s, .int .i64 h, .int .i64 b, .int .i64 c, .int .i64 p, .int .i64 cnt, .int .i64 last, v] 86 (0, 0))) := ⟨hS.1⟩
  have HC := Aside0.mk hC
  have HXL := Aside0.mk hl
  have HND : Aside0 (∀ W : World, W.heap[g]? = some (.cells #[.int .i64 s, .int .i64 h, .int .i64 b, .int .i64 c, .int .i64 p, .int .i64 cnt, .int .i64 last, v] 86 (0, 0)) → Calls Tryd.prog 67 #[.pointer (some ⟨g, 0, none⟩), .int .i64 0] W fun e w' => e = .returned (.int .i64 (n : Int)) ∧ Drawn0 W w') := ⟨fun W hbk => by
    rw [← hl, a5]
    exact needed_q g s h b c p cnt last 0 v W hbk hs hh hhs a0 a1⟩
  have HSM : Aside0 (front_sample.f 0 = some true) := ⟨by unfold front_sample.f; split <;> rename_i h <;> simp <;> omega⟩
  have HLV : Aside0 (∀ W : World, (Kd.int .i64).C W A n xs → Calls Tryd.prog 48 #[.slice A n c0] W fun e w' => e = .returned (.bool true) ∧ Drawn0 W w') := ⟨fun W hc => level_q A n c0 xs true W hl hc a6⟩
  have HCL : Aside0 (∀ W : World, (Kd.int .i64).C W A n xs → Calls Tryd.prog 66 #[.slice A n c0] W fun e w' => ∃ v, e = .returned v ∧ Aside0 ((Kd.int .i64).R 3 w' W.heap.size (fun _ => True) v xs) ∧ Aside0 (Below W.heap.size W w')) := ⟨fun W hc => (clone_go _ _ _ _ W hl hc hn).mono fun e w' ⟨v, a, r, q⟩ => ⟨v, a, ⟨r⟩, ⟨q⟩⟩⟩
  clear hS hC hl hn a4 a5 a6
  have ST0 : True := trivial
  go_enter Tryd.func38, Tryd.ntmps38
  go_wp2_with (first
    | ((with_reducible refine gate_dst (N := 3) rfl ?_); refine box_event ?hg (N := 3) ?hd (cs := #[.int .i64 0, .int .i64 0, .slice A n c0]) (t := 60) ?hr ?_; (case hd => rfl); (case hg => first | rfl | exact wanted_on rfl rfl rfl (by first | assumption | rfl | (simp [*]; done))); (case hr => first | (go_simp; done) | (go_simp; rfl)); intro gb hgb w1 hbox hb; subst hgb; have BX1 := Aside0.mk hbox; have HB1 := Aside0.mk hb; have HC1 := Aside0.mk (Kd.C_below HC.out hb); have BK1 := Aside0.mk (blk_below BK.out hb); have p0 := blk_cell BX1.out 0; have p1 := blk_cell BX1.out 1; have p2 := blk_cell BX1.out 2; clear ST0 hbox hb; have ST2 : True := trivial))
  go_quiet (first
    | (go_at_call 65; exact quiet_d (front_sample.calls _ _ _ HSM.out))
    | (go_at_call 67; refine quiet_d (HND.out _ ?hc); (case hc => exact blk_drewN BK1.out _))
    | (go_at_call 48; refine quiet_d (HLV.out _ ?hc); (case hc => repeat (first | exact HC1.out | refine Kd.C_drewN ?_ _))))
  go_wp2
  have HCK : Aside0 (∀ m : Nat, Calls Tryd.prog 66 #[.slice A n c0] (w1.drewN m) fun e w' => ∃ AC cC, e = .returned (.slice AC n cC) ∧ Aside0 ((Kd.int .i64).R 3 w' w.heap.size (fun _ => True) (.slice AC n cC) xs) ∧ Aside0 (Below w.heap.size w w') ∧ Aside0 (w'.heap[g]? = some (.cells #[.int .i64 s, .int .i64 h, .int .i64 b, .int .i64 c, .int .i64 p, .int .i64 cnt, .int .i64 last, v] 86 (0, 0))) ∧ Aside0 (w'.heap[w.heap.size]? = some (.cells #[.int .i64 0, .int .i64 0, .slice A n c0] 60 (0, 0)))) := ⟨fun m => by
    refine (HCL.out (w1.drewN m) (Kd.C_drewN HC1.out m)).mono ?_
    rintro e_ wc ⟨vC, rfl, RC, BC⟩
    obtain ⟨AC, cC, hvC, _, _⟩ := Kd.R_reads RC.out
    rw [HXL.out] at hvC
    subst hvC
    have hb := below_then (show Below w1.heap.size w1 (w1.drewN m) by exact pw_below_drewN (Below.refl _ _) _) (Nat.le_refl _) BC.out
    exact ⟨AC, cC, rfl, ⟨Kd.R_lower RC.out (Nat.le_trans HB1.out.size (Nat.le_refl _))⟩, ⟨below_step HB1.out hb⟩, ⟨blk_below BK1.out hb⟩, ⟨blk_below BX1.out hb⟩⟩⟩
  have hne0 : ¬ w.heap.size = g := by omega
  have hne1 : ¬ g = w.heap.size := by omega
  clear HB1 HC1 BK1 HCL
  go_region_law (first
    | (go_simp; go_at_call 66; (with_reducible refine (HCK.out _).mono ?_); rintro e_ wc ⟨AC, cC, rfl, RC, HBc, BKc, BXc⟩; have r5 := blk_cell BKc.out 5; have r6 := blk_cell BKc.out 6; have r7 := blk_cell BKc.out 7; have f5 := blk_frozen BKc.out 5; have f6 := blk_frozen BKc.out 6; have f7 := blk_frozen BKc.out 7; have p0c := blk_cell BXc.out 0; have p1c := blk_cell BXc.out 1; have p2c := blk_cell BXc.out 2; have hgwc : g < wc.heap.size := blk_lt BKc.out))
  all_goals
    go_wp2
    go_ret
    refine ⟨.slice AC n cC, rfl, ⟨?_, hb0g, ?_⟩, ?_, fun q hq => Kd.R_base RC.out q hq⟩
    · exact (blk_set (blk_set (blk_set BKc.out 5 _) 6 _) 7 _).trans rfl
    · exact Kd.R_lower (put_Rj (put_Rj (put_Rj RC.out (Nat.le_refl _) hgw) (Nat.le_refl _) hgw) (Nat.le_refl _) hgw) (Nat.le_trans hb0g (Nat.le_of_lt hgw))
    · exact ((((Keeps.refl w g none).below HBc.out).set 5 _).set 6 _).set 7 _
set_option maxHeartbeats 32000000 in
set_option maxRecDepth 100000 in
theorem set_no1 (A : Option Addr) (c0 n g b0 : Nat) (s h b c p cnt last ct lt : Int) (v : Value) (rest xs : List Int) (w : World) (hS : StrAt w g b0 s h b c p cnt last v rest) (hs : 0 ≤ s ∧ s ≤ 1000) (hh : 1 ≤ h ∧ h ≤ 1000) (hhs : h ≤ s) (hl : xs.length = n) (hC : (Kd.int .i64).C w A n xs) (a0 : ct < 0) :
    Calls Tryd.prog 38 #[.pointer (some ⟨g, 0, none⟩), .agg #[.int .i64 ct, .int .i64 lt, .slice A n c0]] w fun e w' => e = .returned (.int .i64 1) ∧ Below w.heap.size w w' := by
  have hu49 := Tryd.underlying49
  have hu98 := Tryd.underlying98
  have hu86 := Tryd.underlying86
  have hu84 := Tryd.underlying84
  have hu39 := Tryd.underlying39
  have hu60 := Tryd.underlying60
  have hgw : g < w.heap.size := blk_lt hS.1
  have BK : Aside0 (w.heap[g]? = some (.cells #[.int .i64 s, .int .i64 h, .int .i64 b, .int .i64 c, .int .i64 p, .int .i64 cnt, .int .i64 last, v] 86 (0, 0))) := ⟨hS.1⟩
  have HC := Aside0.mk hC
  have d0 : decide (ct < 0) = true := decide_eq_true a0
  clear hS hC hl
  have ST0 : True := trivial
  go_enter Tryd.func38, Tryd.ntmps38
  go_wp2_with (first
    | ((with_reducible refine gate_dst (N := 3) rfl ?_); refine box_event ?hg (N := 3) ?hd (cs := #[.int .i64 ct, .int .i64 lt, .slice A n c0]) (t := 60) ?hr ?_; (case hd => rfl); (case hg => first | rfl | exact wanted_on rfl rfl rfl (by first | assumption | rfl | (simp [*]; done))); (case hr => first | (go_simp; done) | (go_simp; rfl)); intro gb hgb w1 hbox hb; subst hgb; have BX1 := Aside0.mk hbox; have HB1 := Aside0.mk hb; have HC1 := Aside0.mk (Kd.C_below HC.out hb); have BK1 := Aside0.mk (blk_below BK.out hb); have p0 := blk_cell BX1.out 0; have p1 := blk_cell BX1.out 1; have p2 := blk_cell BX1.out 2; clear ST0 hbox hb; have ST2 : True := trivial))
  go_quiet (fail)
  go_wp2
  go_ret
  exact ⟨rfl, by repeat (first | exact HB1.out | apply pw_below_drewN)⟩
set_option maxHeartbeats 32000000 in
set_option maxRecDepth 100000 in
theorem set_no2 (A : Option Addr) (c0 n g b0 : Nat) (s h b c p cnt last ct lt : Int) (v : Value) (rest xs : List Int) (w : World) (hS : StrAt w g b0 s h b c p cnt last v rest) (hs : 0 ≤ s ∧ s ≤ 1000) (hh : 1 ≤ h ∧ h ≤ 1000) (hhs : h ≤ s) (hl : xs.length = n) (hC : (Kd.int .i64).C w A n xs) (a0 : 0 ≤ ct) (a1 : 4611686018427387904 < ct) :
    Calls Tryd.prog 38 #[.pointer (some ⟨g, 0, none⟩), .agg #[.int .i64 ct, .int .i64 lt, .slice A n c0]] w fun e w' => e = .returned (.int .i64 1) ∧ Below w.heap.size w w' := by
  have hu49 := Tryd.underlying49
  have hu98 := Tryd.underlying98
  have hu86 := Tryd.underlying86
  have hu84 := Tryd.underlying84
  have hu39 := Tryd.underlying39
  have hu60 := Tryd.underlying60
  have hgw : g < w.heap.size := blk_lt hS.1
  have BK : Aside0 (w.heap[g]? = some (.cells #[.int .i64 s, .int .i64 h, .int .i64 b, .int .i64 c, .int .i64 p, .int .i64 cnt, .int .i64 last, v] 86 (0, 0))) := ⟨hS.1⟩
  have HC := Aside0.mk hC
  have d0 : decide (ct < 0) = false := decide_eq_false (by omega)
  have d1 : decide (4611686018427387904 < ct) = true := decide_eq_true a1
  clear hS hC hl
  have ST0 : True := trivial
  go_enter Tryd.func38, Tryd.ntmps38
  go_wp2_with (first
    | ((with_reducible refine gate_dst (N := 3) rfl ?_); refine box_event ?hg (N := 3) ?hd (cs := #[.int .i64 ct, .int .i64 lt, .slice A n c0]) (t := 60) ?hr ?_; (case hd => rfl); (case hg => first | rfl | exact wanted_on rfl rfl rfl (by first | assumption | rfl | (simp [*]; done))); (case hr => first | (go_simp; done) | (go_simp; rfl)); intro gb hgb w1 hbox hb; subst hgb; have BX1 := Aside0.mk hbox; have HB1 := Aside0.mk hb; have HC1 := Aside0.mk (Kd.C_below HC.out hb); have BK1 := Aside0.mk (blk_below BK.out hb); have p0 := blk_cell BX1.out 0; have p1 := blk_cell BX1.out 1; have p2 := blk_cell BX1.out 2; clear ST0 hbox hb; have ST2 : True := trivial))
  go_quiet (fail)
  go_wp2
  go_ret
  exact ⟨rfl, by repeat (first | exact HB1.out | apply pw_below_drewN)⟩
set_option maxHeartbeats 32000000 in
set_option maxRecDepth 100000 in
theorem set_no3 (A : Option Addr) (c0 n g b0 : Nat) (s h b c p cnt last ct lt : Int) (v : Value) (rest xs : List Int) (w : World) (hS : StrAt w g b0 s h b c p cnt last v rest) (hs : 0 ≤ s ∧ s ≤ 1000) (hh : 1 ≤ h ∧ h ≤ 1000) (hhs : h ≤ s) (hl : xs.length = n) (hC : (Kd.int .i64).C w A n xs) (a0 : 0 ≤ ct) (a1 : ct ≤ 4611686018427387904) (a2 : lt < -32768 ∨ 32768 ≤ lt) :
    Calls Tryd.prog 38 #[.pointer (some ⟨g, 0, none⟩), .agg #[.int .i64 ct, .int .i64 lt, .slice A n c0]] w fun e w' => e = .returned (.int .i64 1) ∧ Below w.heap.size w w' := by
  have hu49 := Tryd.underlying49
  have hu98 := Tryd.underlying98
  have hu86 := Tryd.underlying86
  have hu84 := Tryd.underlying84
  have hu39 := Tryd.underlying39
  have hu60 := Tryd.underlying60
  have hgw : g < w.heap.size := blk_lt hS.1
  have BK : Aside0 (w.heap[g]? = some (.cells #[.int .i64 s, .int .i64 h, .int .i64 b, .int .i64 c, .int .i64 p, .int .i64 cnt, .int .i64 last, v] 86 (0, 0))) := ⟨hS.1⟩
  have HC := Aside0.mk hC
  have HSM : Aside0 (front_sample.f lt = some false) := ⟨by unfold front_sample.f; split <;> rename_i h <;> simp <;> omega⟩
  have d0 : decide (ct < 0) = false := decide_eq_false (by omega)
  have d1 : decide (4611686018427387904 < ct) = false := decide_eq_false (by omega)
  clear hS hC hl
  have ST0 : True := trivial
  go_enter Tryd.func38, Tryd.ntmps38
  go_wp2_with (first
    | ((with_reducible refine gate_dst (N := 3) rfl ?_); refine box_event ?hg (N := 3) ?hd (cs := #[.int .i64 ct, .int .i64 lt, .slice A n c0]) (t := 60) ?hr ?_; (case hd => rfl); (case hg => first | rfl | exact wanted_on rfl rfl rfl (by first | assumption | rfl | (simp [*]; done))); (case hr => first | (go_simp; done) | (go_simp; rfl)); intro gb hgb w1 hbox hb; subst hgb; have BX1 := Aside0.mk hbox; have HB1 := Aside0.mk hb; have HC1 := Aside0.mk (Kd.C_below HC.out hb); have BK1 := Aside0.mk (blk_below BK.out hb); have p0 := blk_cell BX1.out 0; have p1 := blk_cell BX1.out 1; have p2 := blk_cell BX1.out 2; clear ST0 hbox hb; have ST2 : True := trivial))
  go_quiet (first
    | (go_at_call 65; exact quiet_d (front_sample.calls _ _ _ HSM.out)))
  go_wp2
  go_ret
  exact ⟨rfl, by repeat (first | exact HB1.out | apply pw_below_drewN)⟩
set_option maxHeartbeats 32000000 in
set_option maxRecDepth 100000 in
theorem set_no4 (A : Option Addr) (c0 n g b0 : Nat) (s h b c p cnt last lt : Int) (v : Value) (rest xs : List Int) (w : World) (hS : StrAt w g b0 s h b c p cnt last v rest) (hs : 0 ≤ s ∧ s ≤ 1000) (hh : 1 ≤ h ∧ h ≤ 1000) (hhs : h ≤ s) (hl : xs.length = n) (hC : (Kd.int .i64).C w A n xs) (a2 : -32768 ≤ lt ∧ lt < 32768) (z1 : ¬ lt = 0) :
    Calls Tryd.prog 38 #[.pointer (some ⟨g, 0, none⟩), .agg #[.int .i64 0, .int .i64 lt, .slice A n c0]] w fun e w' => e = .returned (.int .i64 1) ∧ Below w.heap.size w w' := by
  have hu49 := Tryd.underlying49
  have hu98 := Tryd.underlying98
  have hu86 := Tryd.underlying86
  have hu84 := Tryd.underlying84
  have hu39 := Tryd.underlying39
  have hu60 := Tryd.underlying60
  have hgw : g < w.heap.size := blk_lt hS.1
  have BK : Aside0 (w.heap[g]? = some (.cells #[.int .i64 s, .int .i64 h, .int .i64 b, .int .i64 c, .int .i64 p, .int .i64 cnt, .int .i64 last, v] 86 (0, 0))) := ⟨hS.1⟩
  have HC := Aside0.mk hC
  have HSM : Aside0 (front_sample.f lt = some true) := ⟨by unfold front_sample.f; split <;> rename_i h <;> simp <;> omega⟩
  clear hS hC hl
  have ST0 : True := trivial
  go_enter Tryd.func38, Tryd.ntmps38
  go_wp2_with (first
    | ((with_reducible refine gate_dst (N := 3) rfl ?_); refine box_event ?hg (N := 3) ?hd (cs := #[.int .i64 0, .int .i64 lt, .slice A n c0]) (t := 60) ?hr ?_; (case hd => rfl); (case hg => first | rfl | exact wanted_on rfl rfl rfl (by first | assumption | rfl | (simp [*]; done))); (case hr => first | (go_simp; done) | (go_simp; rfl)); intro gb hgb w1 hbox hb; subst hgb; have BX1 := Aside0.mk hbox; have HB1 := Aside0.mk hb; have HC1 := Aside0.mk (Kd.C_below HC.out hb); have BK1 := Aside0.mk (blk_below BK.out hb); have p0 := blk_cell BX1.out 0; have p1 := blk_cell BX1.out 1; have p2 := blk_cell BX1.out 2; clear ST0 hbox hb; have ST2 : True := trivial))
  go_quiet (first
    | (go_at_call 65; exact quiet_d (front_sample.calls _ _ _ HSM.out)))
  go_wp2
  go_ret
  exact ⟨rfl, by repeat (first | exact HB1.out | apply pw_below_drewN)⟩
set_option maxHeartbeats 32000000 in
set_option maxRecDepth 100000 in
theorem set_no5 (A : Option Addr) (c0 n g b0 : Nat) (s h b c p cnt last ct lt : Int) (v : Value) (rest xs : List Int) (w : World) (hS : StrAt w g b0 s h b c p cnt last v rest) (hs : 0 ≤ s ∧ s ≤ 1000) (hh : 1 ≤ h ∧ h ≤ 1000) (hhs : h ≤ s) (hl : xs.length = n) (hC : (Kd.int .i64).C w A n xs) (a0 : 0 ≤ ct) (a1 : ct ≤ 4611686018427387904) (a2 : -32768 ≤ lt ∧ lt < 32768) (z0 : ¬ ct = 0) (a5 : ¬ (n : Int) = neededI s h ct) :
    Calls Tryd.prog 38 #[.pointer (some ⟨g, 0, none⟩), .agg #[.int .i64 ct, .int .i64 lt, .slice A n c0]] w fun e w' => e = .returned (.int .i64 1) ∧ Below w.heap.size w w' := by
  have hu49 := Tryd.underlying49
  have hu98 := Tryd.underlying98
  have hu86 := Tryd.underlying86
  have hu84 := Tryd.underlying84
  have hu39 := Tryd.underlying39
  have hu60 := Tryd.underlying60
  have hgw : g < w.heap.size := blk_lt hS.1
  have BK : Aside0 (w.heap[g]? = some (.cells #[.int .i64 s, .int .i64 h, .int .i64 b, .int .i64 c, .int .i64 p, .int .i64 cnt, .int .i64 last, v] 86 (0, 0))) := ⟨hS.1⟩
  have HC := Aside0.mk hC
  obtain ⟨nd, hnd⟩ : ∃ q, neededI s h ct = q := ⟨_, rfl⟩
  have HND : Aside0 (∀ W : World, W.heap[g]? = some (.cells #[.int .i64 s, .int .i64 h, .int .i64 b, .int .i64 c, .int .i64 p, .int .i64 cnt, .int .i64 last, v] 86 (0, 0)) → Calls Tryd.prog 67 #[.pointer (some ⟨g, 0, none⟩), .int .i64 ct] W fun e w' => e = .returned (.int .i64 nd) ∧ Drawn0 W w') := ⟨fun W hbk => by
    rw [← hnd]
    exact needed_q g s h b c p cnt last ct v W hbk hs hh hhs (by omega) (by omega)⟩
  have HSM : Aside0 (front_sample.f lt = some true) := ⟨by unfold front_sample.f; split <;> rename_i h <;> simp <;> omega⟩
  have hne : ¬ (n : Int) = nd := by rw [← hnd]; exact a5
  have d0 : decide (ct < 0) = false := decide_eq_false (by omega)
  have d1 : decide (4611686018427387904 < ct) = false := decide_eq_false (by omega)
  clear hnd a5
  clear hS hC hl
  have ST0 : True := trivial
  go_enter Tryd.func38, Tryd.ntmps38
  go_wp2_with (first
    | ((with_reducible refine gate_dst (N := 3) rfl ?_); refine box_event ?hg (N := 3) ?hd (cs := #[.int .i64 ct, .int .i64 lt, .slice A n c0]) (t := 60) ?hr ?_; (case hd => rfl); (case hg => first | rfl | exact wanted_on rfl rfl rfl (by first | assumption | rfl | (simp [*]; done))); (case hr => first | (go_simp; done) | (go_simp; rfl)); intro gb hgb w1 hbox hb; subst hgb; have BX1 := Aside0.mk hbox; have HB1 := Aside0.mk hb; have HC1 := Aside0.mk (Kd.C_below HC.out hb); have BK1 := Aside0.mk (blk_below BK.out hb); have p0 := blk_cell BX1.out 0; have p1 := blk_cell BX1.out 1; have p2 := blk_cell BX1.out 2; clear ST0 hbox hb; have ST2 : True := trivial))
  go_quiet (first
    | (go_at_call 65; exact quiet_d (front_sample.calls _ _ _ HSM.out))
    | (go_at_call 67; refine quiet_d (HND.out _ ?hc); (case hc => exact blk_drewN BK1.out _)))
  go_wp2
  go_ret
  exact ⟨rfl, by repeat (first | exact HB1.out | apply pw_below_drewN)⟩
set_option maxHeartbeats 32000000 in
set_option maxRecDepth 100000 in
theorem set_no5z (A : Option Addr) (c0 n g b0 : Nat) (s h b c p cnt last : Int) (v : Value) (rest xs : List Int) (w : World) (hS : StrAt w g b0 s h b c p cnt last v rest) (hs : 0 ≤ s ∧ s ≤ 1000) (hh : 1 ≤ h ∧ h ≤ 1000) (hhs : h ≤ s) (hl : xs.length = n) (hC : (Kd.int .i64).C w A n xs) (a5 : ¬ (n : Int) = neededI s h 0) :
    Calls Tryd.prog 38 #[.pointer (some ⟨g, 0, none⟩), .agg #[.int .i64 0, .int .i64 0, .slice A n c0]] w fun e w' => e = .returned (.int .i64 1) ∧ Below w.heap.size w w' := by
  have hu49 := Tryd.underlying49
  have hu98 := Tryd.underlying98
  have hu86 := Tryd.underlying86
  have hu84 := Tryd.underlying84
  have hu39 := Tryd.underlying39
  have hu60 := Tryd.underlying60
  have hgw : g < w.heap.size := blk_lt hS.1
  have BK : Aside0 (w.heap[g]? = some (.cells #[.int .i64 s, .int .i64 h, .int .i64 b, .int .i64 c, .int .i64 p, .int .i64 cnt, .int .i64 last, v] 86 (0, 0))) := ⟨hS.1⟩
  have HC := Aside0.mk hC
  obtain ⟨nd, hnd⟩ : ∃ q, neededI s h 0 = q := ⟨_, rfl⟩
  have HND : Aside0 (∀ W : World, W.heap[g]? = some (.cells #[.int .i64 s, .int .i64 h, .int .i64 b, .int .i64 c, .int .i64 p, .int .i64 cnt, .int .i64 last, v] 86 (0, 0)) → Calls Tryd.prog 67 #[.pointer (some ⟨g, 0, none⟩), .int .i64 0] W fun e w' => e = .returned (.int .i64 nd) ∧ Drawn0 W w') := ⟨fun W hbk => by
    rw [← hnd]
    exact needed_q g s h b c p cnt last 0 v W hbk hs hh hhs (by omega) (by omega)⟩
  have HSM : Aside0 (front_sample.f 0 = some true) := ⟨by unfold front_sample.f; split <;> rename_i h <;> simp <;> omega⟩
  have hne : ¬ (n : Int) = nd := by rw [← hnd]; exact a5
  clear hnd a5
  clear hS hC hl
  have ST0 : True := trivial
  go_enter Tryd.func38, Tryd.ntmps38
  go_wp2_with (first
    | ((with_reducible refine gate_dst (N := 3) rfl ?_); refine box_event ?hg (N := 3) ?hd (cs := #[.int .i64 0, .int .i64 0, .slice A n c0]) (t := 60) ?hr ?_; (case hd => rfl); (case hg => first | rfl | exact wanted_on rfl rfl rfl (by first | assumption | rfl | (simp [*]; done))); (case hr => first | (go_simp; done) | (go_simp; rfl)); intro gb hgb w1 hbox hb; subst hgb; have BX1 := Aside0.mk hbox; have HB1 := Aside0.mk hb; have HC1 := Aside0.mk (Kd.C_below HC.out hb); have BK1 := Aside0.mk (blk_below BK.out hb); have p0 := blk_cell BX1.out 0; have p1 := blk_cell BX1.out 1; have p2 := blk_cell BX1.out 2; clear ST0 hbox hb; have ST2 : True := trivial))
  go_quiet (first
    | (go_at_call 65; exact quiet_d (front_sample.calls _ _ _ HSM.out))
    | (go_at_call 67; refine quiet_d (HND.out _ ?hc); (case hc => exact blk_drewN BK1.out _)))
  go_wp2
  go_ret
  exact ⟨rfl, by repeat (first | exact HB1.out | apply pw_below_drewN)⟩
set_option maxHeartbeats 32000000 in
set_option maxRecDepth 100000 in
theorem set_no6 (A : Option Addr) (c0 n g b0 : Nat) (s h b c p cnt last ct lt : Int) (v : Value) (rest xs : List Int) (w : World) (hS : StrAt w g b0 s h b c p cnt last v rest) (hs : 0 ≤ s ∧ s ≤ 1000) (hh : 1 ≤ h ∧ h ≤ 1000) (hhs : h ≤ s) (hl : xs.length = n) (hC : (Kd.int .i64).C w A n xs) (a0 : 0 ≤ ct) (a1 : ct ≤ 4611686018427387904) (a2 : -32768 ≤ lt ∧ lt < 32768) (z0 : ¬ ct = 0) (a5 : (n : Int) = neededI s h ct) (a6 : lvl xs = false) :
    Calls Tryd.prog 38 #[.pointer (some ⟨g, 0, none⟩), .agg #[.int .i64 ct, .int .i64 lt, .slice A n c0]] w fun e w' => e = .returned (.int .i64 1) ∧ Below w.heap.size w w' := by
  have hu49 := Tryd.underlying49
  have hu98 := Tryd.underlying98
  have hu86 := Tryd.underlying86
  have hu84 := Tryd.underlying84
  have hu39 := Tryd.underlying39
  have hu60 := Tryd.underlying60
  have hgw : g < w.heap.size := blk_lt hS.1
  have BK : Aside0 (w.heap[g]? = some (.cells #[.int .i64 s, .int .i64 h, .int .i64 b, .int .i64 c, .int .i64 p, .int .i64 cnt, .int .i64 last, v] 86 (0, 0))) := ⟨hS.1⟩
  have HC := Aside0.mk hC
  obtain ⟨nd, hnd⟩ : ∃ q, neededI s h ct = q := ⟨_, rfl⟩
  have HND : Aside0 (∀ W : World, W.heap[g]? = some (.cells #[.int .i64 s, .int .i64 h, .int .i64 b, .int .i64 c, .int .i64 p, .int .i64 cnt, .int .i64 last, v] 86 (0, 0)) → Calls Tryd.prog 67 #[.pointer (some ⟨g, 0, none⟩), .int .i64 ct] W fun e w' => e = .returned (.int .i64 nd) ∧ Drawn0 W w') := ⟨fun W hbk => by
    rw [← hnd]
    exact needed_q g s h b c p cnt last ct v W hbk hs hh hhs (by omega) (by omega)⟩
  have HSM : Aside0 (front_sample.f lt = some true) := ⟨by unfold front_sample.f; split <;> rename_i h <;> simp <;> omega⟩
  have HLV : Aside0 (∀ W : World, (Kd.int .i64).C W A n xs → Calls Tryd.prog 48 #[.slice A n c0] W fun e w' => e = .returned (.bool false) ∧ Drawn0 W w') := ⟨fun W hc => level_q A n c0 xs false W hl hc a6⟩
  have hqe : nd = (n : Int) := by rw [← hnd]; exact a5.symm
  subst hqe
  have d0 : decide (ct < 0) = false := decide_eq_false (by omega)
  have d1 : decide (4611686018427387904 < ct) = false := decide_eq_false (by omega)
  clear a5 hnd
  clear hS hC hl
  have ST0 : True := trivial
  go_enter Tryd.func38, Tryd.ntmps38
  go_wp2_with (first
    | ((with_reducible refine gate_dst (N := 3) rfl ?_); refine box_event ?hg (N := 3) ?hd (cs := #[.int .i64 ct, .int .i64 lt, .slice A n c0]) (t := 60) ?hr ?_; (case hd => rfl); (case hg => first | rfl | exact wanted_on rfl rfl rfl (by first | assumption | rfl | (simp [*]; done))); (case hr => first | (go_simp; done) | (go_simp; rfl)); intro gb hgb w1 hbox hb; subst hgb; have BX1 := Aside0.mk hbox; have HB1 := Aside0.mk hb; have HC1 := Aside0.mk (Kd.C_below HC.out hb); have BK1 := Aside0.mk (blk_below BK.out hb); have p0 := blk_cell BX1.out 0; have p1 := blk_cell BX1.out 1; have p2 := blk_cell BX1.out 2; clear ST0 hbox hb; have ST2 : True := trivial))
  go_quiet (first
    | (go_at_call 65; exact quiet_d (front_sample.calls _ _ _ HSM.out))
    | (go_at_call 67; refine quiet_d (HND.out _ ?hc); (case hc => exact blk_drewN BK1.out _))
    | (go_at_call 48; refine quiet_d (HLV.out _ ?hc); (case hc => repeat (first | exact HC1.out | refine Kd.C_drewN ?_ _))))
  go_wp2
  go_ret
  exact ⟨rfl, by repeat (first | exact HB1.out | apply pw_below_drewN)⟩
set_option maxHeartbeats 32000000 in
set_option maxRecDepth 100000 in
theorem set_no6z (A : Option Addr) (c0 n g b0 : Nat) (s h b c p cnt last : Int) (v : Value) (rest xs : List Int) (w : World) (hS : StrAt w g b0 s h b c p cnt last v rest) (hs : 0 ≤ s ∧ s ≤ 1000) (hh : 1 ≤ h ∧ h ≤ 1000) (hhs : h ≤ s) (hl : xs.length = n) (hC : (Kd.int .i64).C w A n xs) (a5 : (n : Int) = neededI s h 0) (a6 : lvl xs = false) :
    Calls Tryd.prog 38 #[.pointer (some ⟨g, 0, none⟩), .agg #[.int .i64 0, .int .i64 0, .slice A n c0]] w fun e w' => e = .returned (.int .i64 1) ∧ Below w.heap.size w w' := by
  have hu49 := Tryd.underlying49
  have hu98 := Tryd.underlying98
  have hu86 := Tryd.underlying86
  have hu84 := Tryd.underlying84
  have hu39 := Tryd.underlying39
  have hu60 := Tryd.underlying60
  have hgw : g < w.heap.size := blk_lt hS.1
  have BK : Aside0 (w.heap[g]? = some (.cells #[.int .i64 s, .int .i64 h, .int .i64 b, .int .i64 c, .int .i64 p, .int .i64 cnt, .int .i64 last, v] 86 (0, 0))) := ⟨hS.1⟩
  have HC := Aside0.mk hC
  obtain ⟨nd, hnd⟩ : ∃ q, neededI s h 0 = q := ⟨_, rfl⟩
  have HND : Aside0 (∀ W : World, W.heap[g]? = some (.cells #[.int .i64 s, .int .i64 h, .int .i64 b, .int .i64 c, .int .i64 p, .int .i64 cnt, .int .i64 last, v] 86 (0, 0)) → Calls Tryd.prog 67 #[.pointer (some ⟨g, 0, none⟩), .int .i64 0] W fun e w' => e = .returned (.int .i64 nd) ∧ Drawn0 W w') := ⟨fun W hbk => by
    rw [← hnd]
    exact needed_q g s h b c p cnt last 0 v W hbk hs hh hhs (by omega) (by omega)⟩
  have HSM : Aside0 (front_sample.f 0 = some true) := ⟨by unfold front_sample.f; split <;> rename_i h <;> simp <;> omega⟩
  have HLV : Aside0 (∀ W : World, (Kd.int .i64).C W A n xs → Calls Tryd.prog 48 #[.slice A n c0] W fun e w' => e = .returned (.bool false) ∧ Drawn0 W w') := ⟨fun W hc => level_q A n c0 xs false W hl hc a6⟩
  have hqe : nd = (n : Int) := by rw [← hnd]; exact a5.symm
  subst hqe
  clear a5 hnd
  clear hS hC hl
  have ST0 : True := trivial
  go_enter Tryd.func38, Tryd.ntmps38
  go_wp2_with (first
    | ((with_reducible refine gate_dst (N := 3) rfl ?_); refine box_event ?hg (N := 3) ?hd (cs := #[.int .i64 0, .int .i64 0, .slice A n c0]) (t := 60) ?hr ?_; (case hd => rfl); (case hg => first | rfl | exact wanted_on rfl rfl rfl (by first | assumption | rfl | (simp [*]; done))); (case hr => first | (go_simp; done) | (go_simp; rfl)); intro gb hgb w1 hbox hb; subst hgb; have BX1 := Aside0.mk hbox; have HB1 := Aside0.mk hb; have HC1 := Aside0.mk (Kd.C_below HC.out hb); have BK1 := Aside0.mk (blk_below BK.out hb); have p0 := blk_cell BX1.out 0; have p1 := blk_cell BX1.out 1; have p2 := blk_cell BX1.out 2; clear ST0 hbox hb; have ST2 : True := trivial))
  go_quiet (first
    | (go_at_call 65; exact quiet_d (front_sample.calls _ _ _ HSM.out))
    | (go_at_call 67; refine quiet_d (HND.out _ ?hc); (case hc => exact blk_drewN BK1.out _))
    | (go_at_call 48; refine quiet_d (HLV.out _ ?hc); (case hc => repeat (first | exact HC1.out | refine Kd.C_drewN ?_ _))))
  go_wp2
  go_ret
  exact ⟨rfl, by repeat (first | exact HB1.out | apply pw_below_drewN)⟩
theorem set_yes (A : Option Addr) (c0 n g b0 : Nat) (s h b c p cnt last ct lt : Int) (v : Value) (rest xs : List Int) (w : World) (hS : StrAt w g b0 s h b c p cnt last v rest) (hs : 0 ≤ s ∧ s ≤ 1000) (hh : 1 ≤ h ∧ h ≤ 1000) (hhs : h ≤ s) (hl : xs.length = n) (hC : (Kd.int .i64).C w A n xs) (hn : n ≤ 1000000) (hok : setOk s h ct lt xs = true) :
    Calls Tryd.prog 38 #[.pointer (some ⟨g, 0, none⟩), .agg #[.int .i64 ct, .int .i64 lt, .slice A n c0]] w fun e w' => ∃ v', e = .returned (.int .i64 0) ∧ StrAt w' g b0 s h b c p ct lt v' xs ∧ Keeps w w' g none ∧ (∀ k, v'.ownBlock = some k → w.heap.size ≤ k) := by
  by_cases z0 : ct = 0
  · subst z0
    have z1 : lt = 0 := by
      simp only [setOk, Bool.and_eq_true, decide_eq_true_eq] at hok
      obtain ⟨⟨⟨_, a4⟩, _⟩, _⟩ := hok
      simpa using a4
    subst z1
    exact set_zero A c0 n g b0 s h b c p cnt last v rest xs w hS hs hh hhs hl hC hn hok
  · exact set_pos A c0 n g b0 s h b c p cnt last ct lt v rest xs w hS hs hh hhs hl hC hn hok z0
theorem set_no (A : Option Addr) (c0 n g b0 : Nat) (s h b c p cnt last ct lt : Int) (v : Value) (rest xs : List Int) (w : World) (hS : StrAt w g b0 s h b c p cnt last v rest) (hs : 0 ≤ s ∧ s ≤ 1000) (hh : 1 ≤ h ∧ h ≤ 1000) (hhs : h ≤ s) (hl : xs.length = n) (hC : (Kd.int .i64).C w A n xs) (hok : setOk s h ct lt xs = false) :
    Calls Tryd.prog 38 #[.pointer (some ⟨g, 0, none⟩), .agg #[.int .i64 ct, .int .i64 lt, .slice A n c0]] w fun e w' => e = .returned (.int .i64 1) ∧ Below w.heap.size w w' := by
  by_cases a0 : 0 ≤ ct
  case neg => exact set_no1 A c0 n g b0 s h b c p cnt last ct lt v rest xs w hS hs hh hhs hl hC (by omega)
  by_cases a1 : ct ≤ 4611686018427387904
  case neg => exact set_no2 A c0 n g b0 s h b c p cnt last ct lt v rest xs w hS hs hh hhs hl hC a0 (by omega)
  by_cases a2 : -32768 ≤ lt ∧ lt < 32768
  case neg => exact set_no3 A c0 n g b0 s h b c p cnt last ct lt v rest xs w hS hs hh hhs hl hC a0 a1 (by omega)
  by_cases z0 : ct = 0
  · subst z0
    by_cases z1 : lt = 0
    · subst z1
      by_cases a5 : (n : Int) = neededI s h 0
      · refine set_no6z A c0 n g b0 s h b c p cnt last v rest xs w hS hs hh hhs hl hC a5 ?_
        rw [← hl] at a5
        cases hv : lvl xs
        · rfl
        · simp [setOk, a5, hv] at hok
      · exact set_no5z A c0 n g b0 s h b c p cnt last v rest xs w hS hs hh hhs hl hC a5
    · exact set_no4 A c0 n g b0 s h b c p cnt last lt v rest xs w hS hs hh hhs hl hC a2 z1
  · by_cases a5 : (n : Int) = neededI s h ct
    · refine set_no6 A c0 n g b0 s h b c p cnt last ct lt v rest xs w hS hs hh hhs hl hC a0 a1 a2 z0 a5 ?_
      rw [← hl] at a5
      cases hv : lvl xs
      · rfl
      · have hx : setOk s h ct lt xs = true := by
          simp only [setOk, Bool.and_eq_true, decide_eq_true_eq]
          exact ⟨⟨⟨⟨⟨a0, a1⟩, a2⟩, by simp [z0]⟩, a5⟩, hv⟩
        rw [hx] at hok
        cases hok
    · exact set_no5 A c0 n g b0 s h b c p cnt last ct lt v rest xs w hS hs hh hhs hl hC a0 a1 a2 z0 a5

/-! ### Push, told by all sound so far -/
theorem any_app {l m : List Int} (h1 : l.any badPU = false) (h2 : m.any badPU = false) : (l ++ m).any badPU = false := by rw [List.any_append, h1, h2]; rfl
theorem last_in {l : List Int} (h : l.any badPU = false) : -32768 ≤ lastL 0 l ∧ lastL 0 l ≤ 32767 := lastL_in (by omega) (push_ok h)
theorem push_st (A : Option Addr) (c n g b0 N Hp : Nat) (b cf p : Int) (L xs : List Int) (T : List (List Int)) (v : Value) (w : World) (hG : GlobA w) (hb0 : 1 ≤ b0) (hbw : b0 ≤ w.heap.size)
    (hS : StrAt w g b0 (N : Int) (Hp : Int) b cf p (L.length : Int) (lastL 0 L) v (rssL (N : Int) (Hp : Int) b cf p L)) (hl : xs.length = n) (hC : (Kd.int .i64).C w A n xs) (hA : ∀ ad, A = some ad → 0 < n → ad.block ≠ g ∧ some ad.block ≠ v.ownBlock)
    (hx : xs.any badPU = false) (hLx : L.any badPU = false) (hp : 0 ≤ p ∧ p < 32768) (hN : 0 < N) (hH1 : 1 ≤ Hp) (hHN : Hp ≤ N) (hN64 : N ≤ 64) (hn : n ≤ 100000) (hLn : L.length ≤ 100000)
    (hT : frsL (N : Int) (Hp : Int) b cf p (L ++ xs) = frsL (N : Int) (Hp : Int) b cf p L ++ T) :
    Calls Tryd.prog 31 #[.pointer (some ⟨g, 0, none⟩), .slice A n c] w fun e w' => ∃ A1 c1 v', e = .returned (.tuple #[.slice A1 T.length c1, .int .i64 0]) ∧ T.length ≤ c1 ∧ Aside0 (StrAt w' g b0 (N : Int) (Hp : Int) b cf p ((L ++ xs).length : Int) (lastL 0 (L ++ xs)) v' (rssL (N : Int) (Hp : Int) b cf p (L ++ xs))) ∧ Aside0 (R2 w' w.heap.size (fun q => some q ≠ v'.ownBlock) (.slice A1 T.length c1) T) ∧ Aside0 (Keeps w w' g v.ownBlock) ∧ Aside0 (∀ k, v'.ownBlock = some k → some k = v.ownBlock ∨ w.heap.size ≤ k) := by
  have hsN : (N : Int).toNat = N := by omega
  have hhN : (Hp : Int).toNat = Hp := by omega
  obtain ⟨k1, k2⟩ := cut_step (s := (N : Int)) (h := (Hp : Int)) (b := b) (c := cf) (p := p) (by omega) (by omega) (by omega) L xs
  have hT1 : (cutA (N : Int) (Hp : Int) b cf p (rssL (N : Int) (Hp : Int) b cf p L ++ flatL p (lastL 0 L) xs)).1 = T := by
    rw [hT] at k1
    exact (List.append_cancel_left k1).symm
  have hrl := rssL_len (s := (N : Int)) (h := (Hp : Int)) (b := b) (c := cf) (p := p) (by omega) (by omega) L
  refine (push_go A c n g b0 N Hp (N : Int) (Hp : Int) b cf p (L.length : Int) (lastL 0 L) ((L ++ xs).length : Int) (lastL 0 (L ++ xs)) (rssL (N : Int) (Hp : Int) b cf p L) xs _ (rssL (N : Int) (Hp : Int) b cf p (L ++ xs)) T v w hG hb0 hbw hS hl hC hA hx (last_in hLx) hp rfl hN rfl hH1 hHN hN64 hn (by omega) (by omega) (by omega) rfl hT1 k2.symm (by rw [List.length_append]; omega) (lastL_app 0 L xs).symm).mono ?_
  rintro e w' ⟨vo, v', rfl, h1, h2, h3, h4⟩
  obtain ⟨A1, c1, hvo, hc1, _⟩ := Kd.R_reads h2
  subst hvo
  exact ⟨A1, c1, v', rfl, hc1, ⟨h1⟩, ⟨h2⟩, ⟨h3⟩, ⟨h4⟩⟩
/-- A row of rows that is not the stream's stays what it is. -/
theorem keep_R {α : Type} {d : Kd α} {e base g : Nat} {W W' : World} {v v' va : Value} {T : List α} (h : d.R e W base (fun q => q ≠ g ∧ some q ≠ v.ownBlock) va T) (hK : Keeps W W' g v.ownBlock) (hv : ∀ k, v'.ownBlock = some k → some k = v.ownBlock ∨ W.heap.size ≤ k) :
    d.R e W' base (fun q => q ≠ g ∧ some q ≠ v'.ownBlock) va T := by
  have h1 := Kd.R_mono (Kd.R_bound h) (ok' := fun q => (q ≠ g ∧ some q ≠ v.ownBlock) ∧ q < W.heap.size) (fun q hq => ⟨hq.1, hq.2.2.1⟩)
  refine Kd.R_mono (hK.R h1 (fun q hq => ⟨hq.1.1, hq.1.2⟩)) (fun q hq => ⟨hq.1.1, fun e_ => ?_⟩)
  rcases hv q e_.symm with h2 | h2
  · exact hq.1.2 h2
  · omega
theorem fresh_R {α : Type} {d : Kd α} {e base g : Nat} {W : World} {v' va : Value} {T : List α} (h : d.R e W base (fun q => some q ≠ v'.ownBlock) va T) (hg : g < base) : d.R e W base (fun q => q ≠ g ∧ some q ≠ v'.ownBlock) va T :=
  Kd.R_mono (Kd.R_bound h) (fun q hq => ⟨by omega, hq.1⟩)
theorem wide_R {α : Type} {d : Kd α} {e base g : Nat} {W W' : World} {v va : Value} {T : List α} (h : d.R e W' base (fun _ => True) va T) (hb : W.heap.size ≤ base) (hg : g < W.heap.size) (hv : ∀ k, v.ownBlock = some k → k < W.heap.size) : d.R e W' base (fun q => q ≠ g ∧ some q ≠ v.ownBlock) va T :=
  Kd.R_mono (Kd.R_bound h) (fun q hq => ⟨by omega, fun e_ => by have := hv q e_.symm; omega⟩)
/-- The state after New. -/
theorem st_new {w : World} {g b0 : Nat} {s h b c p : Int} (hs : 1 ≤ s) (H : StrAt w g b0 s h b c p 0 0 (.slice none 0 0) []) : StrAt w g b0 s h b c p (([] : List Int).length : Int) (lastL 0 []) (.slice none 0 0) (rssL s h b c p []) := by
  have e : rssL s h b c p [] = [] := by
    unfold rssL
    rw [show flatL p 0 [] = [] from rfl, cutA_no _ (by show 0 < s.toNat; omega)]
  rw [e]
  exact H

def soundL (l : List Int) : List Int := (l.take 90).map fun x => IntKind.i16.wrap x
theorem i16_in (x : Int) : -32768 ≤ IntKind.i16.wrap x ∧ IntKind.i16.wrap x ≤ 32767 := by
  have h : IntKind.i16.wrap x = (x + 32768) % 65536 - 32768 := by
    simp only [IntKind.wrap, IntKind.bits, IntKind.signed]
    first | rfl | (simp; omega) | omega
  have h1 := Int.emod_nonneg (x + 32768) (show (65536 : Int) ≠ 0 by decide)
  have h2 := Int.emod_lt_of_pos (x + 32768) (show (0 : Int) < 65536 by decide)
  omega
theorem soundL_len (l : List Int) : (soundL l).length ≤ 90 := by
  simp only [soundL, List.length_map, List.length_take]; omega
theorem soundL_ok (l : List Int) : (soundL l).any badPU = false := by
  rw [List.any_eq_false]
  intro y hy
  simp only [soundL, List.mem_map] at hy
  obtain ⟨x, _, rfl⟩ := hy
  have := i16_in x
  unfold badPU
  rw [decide_eq_true (by omega), decide_eq_true (by omega)]
  decide
theorem rsound_l0 (l : List Int) (hl : l.length ≤ 4000000000000000000) : ∀ (d n k : Nat), n + d = (soundL l).length → d + 1 ≤ k → earshotlaw13_sound.l0 k l ((soundL l).take n) (n : Int) = some (soundL l)
  | 0, n, k, hn, hk => by
    obtain ⟨k, rfl⟩ : ∃ q, k = q + 1 := ⟨k - 1, by omega⟩
    rw [List.take_of_length_le (by omega)]
    simp only [soundL, List.length_map, List.length_take] at hn
    rw [earshotlaw13_sound.l0]
    by_cases h1 : (n : Int) < (l.length : Int)
    · rw [if_pos h1, if_neg (by omega)]
    · rw [if_neg h1]
  | d + 1, n, k, hn, hk => by
    obtain ⟨k, rfl⟩ : ∃ q, k = q + 1 := ⟨k - 1, by omega⟩
    have hlt : n < (soundL l).length := by omega
    have hn2 := hlt
    simp only [soundL, List.length_map, List.length_take] at hn2
    have e1 : wrap64 ((n : Int) + 1) = ((n + 1 : Nat) : Int) := by unfold wrap64; omega
    have e2 : (soundL l).take (n + 1) = (soundL l).take n ++ [wrap64 (IntKind.i16.wrap (l.getD n 0))] := by
      rw [List.take_add_one, List.getElem?_eq_getElem hlt]
      have hw := i16_in (l.getD n 0)
      have : (soundL l)[n] = wrap64 (IntKind.i16.wrap (l.getD n 0)) := by
        rw [show wrap64 (IntKind.i16.wrap (l.getD n 0)) = IntKind.i16.wrap (l.getD n 0) by unfold wrap64; omega]
        simp only [soundL, List.getElem_map, List.getElem_take]
        rw [List.getD_eq_getElem?_getD, List.getElem?_eq_getElem (by omega)]
        rfl
      rw [this]; rfl
    rw [earshotlaw13_sound.l0, if_pos (by omega), if_pos (by omega), if_pos (by omega), if_pos (by rw [List.length_take]; omega), show rd l (n : Int) = l.getD n 0 by unfold rd; rw [Int.toNat_natCast], ← e2, e1]
    exact rsound_l0 l hl d (n + 1) k (by omega) (by omega)
theorem rsound_f (l : List Int) (hl : l.length ≤ 4000000000000000000) (k : Nat) (hk : 91 ≤ k) : earshotlaw13_sound.f k l = some (soundL l) := by
  have h := rsound_l0 l hl (soundL l).length 0 k (by omega) (by have := soundL_len l; omega)
  exact h

theorem refquot_f {x n : Int} (hx : -9223372036854775808 ≤ x ∧ x ≤ 9223372036854775807) (hn : -9223372036854775808 ≤ n ∧ n ≤ 9223372036854775807) (h1 : 1 ≤ n) : earshotref02_Quot.f x n = some (x / n) := by
  have h := prt_some hx hn h1
  unfold round_Parts.f at h
  unfold earshotref02_Quot.f
  rw [if_neg (by omega)] at h
  rw [if_neg (by omega)] at h ⊢
  split at h
  · rename_i hc
    rw [if_pos hc]
    have h := Option.some.inj h
    rw [Prod.mk.injEq] at h
    rw [h.1]
  · rename_i hc
    rw [if_neg hc]
    have h := Option.some.inj h
    rw [Prod.mk.injEq] at h
    rw [h.1]
theorem refrest_f {x n : Int} (hx : -9223372036854775808 ≤ x ∧ x ≤ 9223372036854775807) (hn : -9223372036854775808 ≤ n ∧ n ≤ 9223372036854775807) (h1 : 1 ≤ n) : earshotref02_Rest.f x n = some (x % n) := by
  unfold earshotref02_Rest.f
  rw [refquot_f hx hn h1, Option.bind_some]
  have e := Int.mul_ediv_add_emod x n
  have m0 := Int.emod_nonneg x (show n ≠ 0 by omega)
  have m1 := Int.emod_lt_of_pos x (show 0 < n by omega)
  rw [W_sub_W, Int.mul_comm]
  congr 1
  rw [show x - n * (x / n) = x % n by omega]
  exact W_in (by omega) (by omega)

theorem rdiv_f {x n : Int} (hx : -9223372036854775808 ≤ x ∧ x ≤ 9223372036854775807) (hn : 1 ≤ n ∧ n ≤ 4611686018427387904) : earshotref02_Div.f x n = some (divR x n) := by
  have hn2 : -9223372036854775808 ≤ n ∧ n ≤ 9223372036854775807 := by omega
  have r0 := Int.emod_nonneg x (show n ≠ 0 by omega)
  have r1 := Int.emod_lt_of_pos x (show 0 < n by omega)
  unfold earshotref02_Div.f divR
  rw [if_neg (by omega), if_neg (by omega), refquot_f hx hn2 hn.1, bsome, refrest_f hx hn2 hn.1, bsome]
  have e : wrap64 (n - x % n) = n - x % n := by unfold wrap64; omega
  rw [e]
  by_cases h : x % n ≥ n - x % n
  · rw [if_pos h, if_pos h]
    congr 1
    have q0 : -9223372036854775808 ≤ x / n := (Int.le_ediv_iff_mul_le (by omega)).2 (by omega)
    have q1 : x / n < 9223372036854775807 := by
      have hd := Int.mul_ediv_add_emod x n
      rcases Int.lt_or_le (x / n) 9223372036854775807 with h' | h'
      · exact h'
      · have := Int.mul_le_mul_of_nonneg_right hn.1 (show 0 ≤ x / n by omega)
        omega
    unfold wrap64; omega
  · rw [if_neg h, if_neg h]
theorem rpower : ∀ n : Fin 63, earshotref02_power.f 70 ((n.1 : Nat) : Int) = some ((2 ^ n.1 : Nat) : Int) := by decide +kernel
theorem rhalf_f {x : Int} (hx : -9223372036854775808 ≤ x ∧ x ≤ 9223372036854775807) (n : Nat) (hn : n ≤ 62) : ∀ k, 71 ≤ k → earshotref02_Half.f k x (n : Int) = some (divR x ((2 ^ n : Nat) : Int)) := by
  intro k hk
  obtain ⟨d, rfl⟩ := Nat.exists_eq_add_of_le hk
  clear hk
  induction d with
  | zero =>
    have hp := rpower ⟨n, by omega⟩
    have hle : 2 ^ n ≤ 2 ^ 62 := Nat.pow_le_pow_right (by decide) hn
    have hpos : 0 < 2 ^ n := Nat.two_pow_pos n
    unfold earshotref02_Half.f
    rw [if_neg (by omega), decide_eq_false (by omega), earshotref02_Half.j0, if_neg (by decide), hp, bsome]
    generalize 2 ^ n = p at *
    rw [rdiv_f hx (by omega), bsome]
  | succ d ih => exact earshotref02_Half.mono _ _ _ _ ih

theorem rframes_f (s h b c p n : Int) (hs : 0 ≤ s ∧ s ≤ 1000) (hh : 1 ≤ h) (h0 : 0 ≤ n) (h1 : n ≤ 4611686018427387904) : earshotref13_Frames.f s h b c p n = some (framesI s h n) := by
  unfold earshotref13_Frames.f framesI
  by_cases c1 : n < s
  · rw [if_pos c1, if_pos c1]
  · rw [if_neg c1, if_neg c1, if_neg (by omega)]
    have e1 : wrap64 (n - s) = n - s := by unfold wrap64; omega
    have a0 : 0 ≤ (n - s) / h := Int.ediv_nonneg (by omega) (by omega)
    have a1 : (n - s) / h ≤ n - s := Int.ediv_le_self _ (by omega)
    rw [e1, Int.tdiv_eq_ediv_of_nonneg (by omega)]
    generalize (n - s) / h = q at a0 a1
    rw [show wrap64 q = q by unfold wrap64; omega, show wrap64 (q + 1) = q + 1 by unfold wrap64; omega]

theorem rflat_l0 (s h b c p : Int) (l : List Int) (hl : l.length ≤ 1000) (hok : ∀ x ∈ l, -32768 ≤ x ∧ x ≤ 32767) (hp : 0 ≤ p ∧ p < 32768) : ∀ (d n k : Nat), n + d = l.length → 100 + d ≤ k →
    earshotref13_Flat.l0 k l (flatL p 0 (l.take n)) (lastL 0 (l.take n)) (n : Int) s h b c p = some (flatL p 0 l)
  | 0, n, k, hn, hk => by
    obtain ⟨k, rfl⟩ : ∃ q, k = q + 1 := ⟨k - 1, by omega⟩
    rw [List.take_of_length_le (by omega), earshotref13_Flat.l0, if_neg (by omega)]
  | d + 1, n, k, hn, hk => by
    obtain ⟨k, rfl⟩ : ∃ q, k = q + 1 := ⟨k - 1, by omega⟩
    have e1 : wrap64 ((n : Int) + 1) = ((n + 1 : Nat) : Int) := by unfold wrap64; omega
    have hx : -32768 ≤ l.getD n 0 ∧ l.getD n 0 ≤ 32767 := by
      rw [List.getD_eq_getElem?_getD, List.getElem?_eq_getElem (by omega)]
      exact hok _ (List.getElem_mem _)
    have hlb : -32768 ≤ lastL 0 (l.take n) ∧ lastL 0 (l.take n) ≤ 32767 := lastL_in (by omega) (fun z hz => hok z (List.mem_of_mem_take hz))
    have hps := pre_small hp hlb
    have e2 : wrap64 (p * lastL 0 (l.take n)) = p * lastL 0 (l.take n) := by
      generalize p * lastL 0 (l.take n) = q at hps
      unfold wrap64; omega
    have e3 := rhalf_f (x := p * lastL 0 (l.take n)) ⟨by omega, by omega⟩ 15 (by omega) k (by omega)
    rw [show ((2 ^ 15 : Nat) : Int) = 32768 by decide, show ((15 : Nat) : Int) = 15 by rfl] at e3
    have e4 : wrap64 (l.getD n 0 - divR (p * lastL 0 (l.take n)) 32768) = preS p (lastL 0 (l.take n)) (l.getD n 0) := by
      unfold preS
      rw [divR_15]
      unfold wrap64; omega
    have e5 : flatL p 0 (l.take (n + 1)) = flatL p 0 (l.take n) ++ [preS p (lastL 0 (l.take n)) (l.getD n 0)] := by rw [take_snoc l n (by omega), flatL_snoc]
    have e6 : lastL 0 (l.take (n + 1)) = l.getD n 0 := by rw [take_snoc l n (by omega), lastL_snoc]
    rw [earshotref13_Flat.l0, if_pos (by omega), if_pos (by omega), e2, e3, bsome, if_pos (by rw [flatL_length, List.length_take]; omega), show rd l (n : Int) = l.getD n 0 by unfold rd; rw [Int.toNat_natCast], e4, ← e5, ← e6, e1]
    exact rflat_l0 s h b c p l hl hok hp d (n + 1) k (by omega) (by omega)
theorem rflat_f (s h b c p : Int) (l : List Int) (hl : l.length ≤ 1000) (hok : l.any badPU = false) (hp : 0 ≤ p ∧ p < 32768) (k : Nat) (hk : 1200 ≤ k) : earshotref13_Flat.f k s h b c p l = some (flatL p 0 l) :=
  rflat_l0 s h b c p l hl (push_ok hok) hp l.length 0 k (by omega) (by omega)

theorem lastL_get : ∀ (x : Int) (l : List Int), lastL x l = l.getD (l.length - 1) x
  | _, [] => rfl
  | _, [y] => rfl
  | x, y :: z :: l => by
    show lastL y (z :: l) = _
    rw [lastL_get y (z :: l)]
    have e1 : (z :: l).length - 1 = l.length := by simp
    have e2 : (y :: z :: l).length - 1 = l.length + 1 := by simp
    rw [e1, e2, List.getD_cons_succ, List.getD_eq_getElem?_getD, List.getD_eq_getElem?_getD, List.getElem?_eq_getElem (by simp)]
    rfl
theorem rtail_f (s h b c p : Int) (l : List Int) (hl : l.length ≤ 1000) (hok : l.any badPU = false) (hp : 0 ≤ p ∧ p < 32768) (hs : 0 ≤ s ∧ s ≤ 1000) (hh : 1 ≤ h) (hhs : h ≤ s) :
    earshotref13_Tail.f 2000 s h b c p l = some ((l.length : Int), lastL 0 l, rssL s h b c p l) := by
  have e1 := rflat_f s h b c p l hl hok hp 2000 (by omega)
  have e2 := rframes_f s h b c p (l.length : Int) hs hh (by omega) (by omega)
  have e3 := framesI_mul (s := s) (h := h) (n := (l.length : Int)) hs.1 hh hhs (by omega)
  have e0 := framesI_nn (s := s) (h := h) (n := (l.length : Int)) hh
  have e4 := rssL_eq (s := s) (h := h) (b := b) (c := c) (p := p) hh hhs l
  have e5 : ((framesI s h (l.length : Int)).toNat * h.toNat : Nat) = (framesI s h (l.length : Int) * h).toNat := by
    rw [Int.toNat_mul e0 (by omega)]
  rw [e5] at e4
  obtain ⟨q, hq⟩ : ∃ q, framesI s h (l.length : Int) * h = q := ⟨_, rfl⟩
  rw [hq] at e3 e4
  have e6 : wrap64 q = q := by unfold wrap64; omega
  unfold earshotref13_Tail.f
  have hd : ((flatL p 0 l).drop q.toNat).length < 17592186044416 := by rw [List.length_drop, flatL_length]; omega
  by_cases h0 : (l.length : Int) > 0
  · have e7 : wrap64 ((l.length : Int) - 1) = ((l.length - 1 : Nat) : Int) := by unfold wrap64; omega
    rw [if_pos h0, e7, if_pos (by omega), if_pos (by omega), e1, bsome, e2, bsome, hq, e6, if_pos (by omega), if_pos (by rw [flatL_length]; omega), bsome, if_pos (by simpa using hd)]
    have e8 : rd l ((l.length - 1 : Nat) : Int) = lastL 0 l := by
      unfold rd
      rw [Int.toNat_natCast, lastL_get]
    rw [e8, e4]; rfl
  · have hnil : l = [] := List.eq_nil_of_length_eq_zero (by omega)
    rw [if_neg h0, e1, bsome, e2, bsome, hq, e6, if_pos (by omega), if_pos (by rw [flatL_length]; omega), bsome, if_pos (by simpa using hd), e4]
    subst hnil
    rfl

def fill3 (W : World) (g : Nat) (a0 a1 a2 : Value) : World := ((W.setCell ⟨g, 0, none⟩ a0).setCell ⟨g, 1, none⟩ a1).setCell ⟨g, 2, none⟩ a2
theorem fill3_at {W : World} {g t : Nat} {b0 b1 b2 : Value} (h : W.heap[g]? = some (.cells #[b0, b1, b2] t (0, 0))) (a0 a1 a2 : Value) : (fill3 W g a0 a1 a2).heap[g]? = some (.cells #[a0, a1, a2] t (0, 0)) :=
  (blk_set (blk_set (blk_set h 0 a0) 1 a1) 2 a2).trans rfl
theorem fill3_far {W : World} {g k : Nat} {o : Obj} (h : W.heap[k]? = some o) (hne : k ≠ g) (a0 a1 a2 : Value) : (fill3 W g a0 a1 a2).heap[k]? = some o :=
  blk_far (blk_far (blk_far h hne _) hne _) hne _
theorem fill3_below {w W : World} {g : Nat} (h : Below w.heap.size w W) (hg : w.heap.size ≤ g) (a0 a1 a2 : Value) : Below w.heap.size w (fill3 W g a0 a1 a2) :=
  below_set (below_set (below_set h hg) hg) hg
theorem fill3_R {W : World} {g base : Nat} {ok : Nat → Prop} {v : Value} {xs : List Int} (h : (Kd.int .i64).R 3 W base ok v xs) (hok : ∀ q, ok q → q ≠ g) (a0 a1 a2 : Value) : (Kd.int .i64).R 3 (fill3 W g a0 a1 a2) base ok v xs :=
  Kd.R_far (Kd.R_far (Kd.R_far h (p := ⟨g, 0, none⟩) hok _) (p := ⟨g, 1, none⟩) hok _) (p := ⟨g, 2, none⟩) hok _
theorem StrAt.far {W : World} {g b0 g' : Nat} {s h b c p cnt last : Int} {v : Value} {rest : List Int} (H : StrAt W g b0 s h b c p cnt last v rest) (hg : g ≠ g') (hv : some g' ≠ v.ownBlock) (a0 a1 a2 : Value) : StrAt (fill3 W g' a0 a1 a2) g b0 s h b c p cnt last v rest :=
  ⟨fill3_far H.1 hg _ _ _, H.2.1, Kd.R_mono (fill3_R (Kd.R_tight rfl H.2.2) (fun q hq e => by
    have h1 : some q = v.ownBlock := hq
    rw [e] at h1
    exact hv h1) _ _ _) (fun _ _ => trivial)⟩

theorem flat_in {p : Int} (hp : 0 ≤ p ∧ p < 32768) : ∀ (last : Int) (xs : List Int), (-32768 ≤ last ∧ last ≤ 32767) → (∀ x ∈ xs, -32768 ≤ x ∧ x ≤ 32767) → ∀ y ∈ flatL p last xs, -65536 ≤ y ∧ y ≤ 65536
  | _, [], _, _ => by intro y hy; simp [flatL] at hy
  | last, x :: xs, hl, hx => by
    intro y hy
    have hx0 := hx x List.mem_cons_self
    simp only [flatL, List.mem_cons] at hy
    rcases hy with rfl | hy
    · have := pre_small hp hl
      unfold preS
      rw [divR_15]
      omega
    · exact flat_in hp x xs hx0 (fun z hz => hx z (List.mem_cons_of_mem _ hz)) y hy
theorem lvl_of {l : List Int} (h : ∀ y ∈ l, -65536 ≤ y ∧ y ≤ 65536) : lvl l = true := by
  unfold lvl
  rw [Bool.not_eq_true', List.any_eq_false]
  intro y hy
  have := h y hy
  unfold badLV
  rw [decide_eq_false (by omega), decide_eq_false (by omega)]
  decide
theorem ok_state (s h b c p : Int) (l : List Int) (hl : l.length ≤ 1000) (hok : l.any badPU = false) (hp : 0 ≤ p ∧ p < 32768) (hs : 0 ≤ s) (hh : 1 ≤ h) (hhs : h ≤ s) : setOk s h (l.length : Int) (lastL 0 l) (rssL s h b c p l) = true := by
  have e3 := framesI_mul (s := s) (h := h) (n := (l.length : Int)) hs hh hhs (by omega)
  have e0 := framesI_nn (s := s) (h := h) (n := (l.length : Int)) hh
  have e4 := rssL_eq (s := s) (h := h) (b := b) (c := c) (p := p) hh hhs l
  have e5 : ((framesI s h (l.length : Int)).toNat * h.toNat : Nat) = (framesI s h (l.length : Int) * h).toNat := by
    rw [Int.toNat_mul e0 (by omega)]
  rw [e5] at e4
  have hlast := last_in hok
  have hlen : ((rssL s h b c p l).length : Int) = neededI s h (l.length : Int) := by
    rw [e4, List.length_drop, flatL_length]
    unfold neededI
    omega
  have hlv : lvl (rssL s h b c p l) = true := by
    rw [e4]
    exact lvl_of (fun y hy => flat_in hp 0 l (by omega) (push_ok hok) y (List.mem_of_mem_drop hy))
  simp only [setOk, Bool.and_eq_true, decide_eq_true_eq]
  refine ⟨⟨⟨⟨⟨by omega, by omega⟩, by omega, by omega⟩, ?_⟩, hlen⟩, hlv⟩
  by_cases z : l = []
  · subst z; rfl
  · have : l.length ≠ 0 := fun e => z (List.eq_nil_of_length_eq_zero e)
    rw [decide_eq_false (by omega), Bool.false_and]; rfl
theorem StrAt.keep {W W' : World} {g b0 g' : Nat} {row : Option Nat} {s h b c p cnt last : Int} {v : Value} {rest : List Int} (H : StrAt W g b0 s h b c p cnt last v rest) (hK : Keeps W W' g' row) (hg : g ≠ g') (hgr : some g ≠ row) (hv : ∀ k, v.ownBlock = some k → k ≠ g' ∧ some k ≠ row) : StrAt W' g b0 s h b c p cnt last v rest :=
  ⟨hK.blk H.1 hg hgr, H.2.1, Kd.R_mono (hK.R (Kd.R_tight rfl H.2.2) (fun q hq => hv q (show v.ownBlock = some q from Eq.symm hq))) (fun _ _ => trivial)⟩
theorem frs_nil {s h b c p : Int} (hs : 1 ≤ s) : frsL s h b c p [] = [] := by
  unfold frsL
  rw [show flatL p 0 [] = [] from rfl, cutA_no _ (by show 0 < s.toNat; omega)]
/-- k modulo the number of places where sound may be cut. -/
theorem cut_at (q : Int) (K : Nat) (hK : K ≤ 1000) : ∃ (q1 q2 : Int) (kk : Nat), Int.tmod q ((K : Int) + 1) = q1 ∧ IntKind.i64.wrap q1 = q1 ∧ IntKind.i64.wrap (q1 + ((K : Int) + 1)) = q2 ∧ Int.tmod q2 ((K : Int) + 1) = (kk : Int) ∧ kk ≤ K := by
  have h1 := Int.natAbs_tmod q ((K : Int) + 1)
  have h2 := Nat.mod_lt q.natAbs (show 0 < ((K : Int) + 1).natAbs by omega)
  rw [← h1] at h2
  obtain ⟨q1, hq1⟩ : ∃ r, Int.tmod q ((K : Int) + 1) = r := ⟨_, rfl⟩
  rw [hq1] at h2
  have h3 := Int.tmod_nonneg ((K : Int) + 1) (show 0 ≤ q1 + ((K : Int) + 1) by omega)
  have h4 := Int.tmod_lt_of_pos (q1 + ((K : Int) + 1)) (show 0 < (K : Int) + 1 by omega)
  refine ⟨q1, q1 + ((K : Int) + 1), (Int.tmod (q1 + ((K : Int) + 1)) ((K : Int) + 1)).toNat, hq1, ?_, ?_, ?_, ?_⟩
  · rw [IntKind.wrap_i64]; omega
  · rw [IntKind.wrap_i64]; omega
  · omega
  · omega

theorem same_goK (l : List Int) (hl : l.length ≤ 100000000) (d : Nat) : ∀ (k i : Nat), i ≤ l.length → l.length - i = d → d < k → earshotref04_Same.l0 k l l (i : Int) = some true := by
  induction d with
  | zero =>
    intro k i h0 hd hk
    obtain ⟨k, rfl⟩ : ∃ m, k = m + 1 := ⟨k - 1, by omega⟩
    simp only [earshotref04_Same.l0]
    rw [if_neg (by omega)]
  | succ d ih =>
    intro k i h0 hd hk
    obtain ⟨k, rfl⟩ : ∃ m, k = m + 1 := ⟨k - 1, by omega⟩
    simp only [earshotref04_Same.l0]
    have hw : wrap64 ((i : Int) + 1) = ((i + 1 : Nat) : Int) := by unfold wrap64; omega
    rw [if_pos (by omega), if_pos (by omega), if_pos (by omega), if_pos trivial, hw]
    exact ih k (i + 1) (by omega) (by omega) (by omega)
theorem sameK (l : List Int) (hl : l.length ≤ 100000000) {k : Nat} (hk : l.length < k) : earshotref04_Same.f k l l = some true := by
  unfold earshotref04_Same.f
  rw [if_pos rfl]
  exact same_goK l hl l.length k 0 (by omega) (by omega) (by omega)

theorem frameF_le (s h b c p : Int) (ys : List Int) : (frameF s h b c p ys).length ≤ 100 := by
  by_cases hok : frameOk s h b c p ys = true
  · rw [frameF_len hok]
    simp only [frameOk, Bool.and_eq_true] at hok
    have hr := hok.1.1
    simp only [rightB, Bool.and_eq_true, decide_eq_true_eq] at hr
    obtain ⟨⟨⟨⟨⟨⟨⟨r0, r1⟩, r2⟩, r3⟩, r4⟩, r5⟩, r6⟩, r7⟩ := hr
    rcases mayB_cases r3 with h | h | h <;> omega
  · unfold frameF
    rw [if_neg hok]
    decide

theorem rows_l0 (T : List (List Int)) (hT : T.length ≤ 1000) (hR : ∀ r ∈ T, r.length ≤ 1000) : ∀ (d n k : Nat), n + d = T.length → 2000 + d ≤ k → earshotlaw13_rows.l0 k T T (n : Int) = some true
  | 0, n, k, hn, hk => by
    obtain ⟨k, rfl⟩ : ∃ q, k = q + 1 := ⟨k - 1, by omega⟩
    rw [earshotlaw13_rows.l0, if_neg (by omega)]
  | d + 1, n, k, hn, hk => by
    obtain ⟨k, rfl⟩ : ∃ q, k = q + 1 := ⟨k - 1, by omega⟩
    have e1 : wrap64 ((n : Int) + 1) = ((n + 1 : Nat) : Int) := by unfold wrap64; omega
    have e2 : rd_L1 T (n : Int) = T.getD n [] := by unfold rd_L1; rw [Int.toNat_natCast]
    have h1 : (T.getD n []).length ≤ 1000 := by
      rw [List.getD_eq_getElem?_getD, List.getElem?_eq_getElem (by omega)]
      exact hR _ (List.getElem_mem _)
    rw [earshotlaw13_rows.l0, if_pos (by omega), if_pos (by omega), if_pos (by omega), e2, sameK _ (by omega) (by omega), bsome, if_pos rfl, e1]
    exact rows_l0 T hT hR d (n + 1) k (by omega) (by omega)
theorem rows_f (T : List (List Int)) (hT : T.length ≤ 1000) (hR : ∀ r ∈ T, r.length ≤ 1000) : earshotlaw13_rows.f 4000 T T = some true := by
  unfold earshotlaw13_rows.f
  rw [if_pos rfl]
  exact rows_l0 T hT hR T.length 0 4000 (by omega) (by omega)
theorem cutA_rows {s h b c p : Int} (hs : 1 ≤ s.toNat) (hh : 1 ≤ h.toNat) : ∀ (n : Nat) (r : List Int), r.length ≤ n → ∀ f ∈ (cutA s h b c p r).1, f.length ≤ 100
  | n, r, hn => by
    by_cases hr : r.length < s.toNat
    · rw [cutA_no r hr]; intro f hf; cases hf
    · match n, hn with
      | 0, hn => omega
      | n + 1, hn =>
        rw [cutA_yes hs hh r (by omega)]
        intro f hf
        rcases List.mem_cons.1 hf with h1 | h1
        · rw [h1]; exact frameF_le _ _ _ _ _ _
        · exact cutA_rows hs hh n (r.drop h.toNat) (by rw [List.length_drop]; omega) f h1

theorem sound_d (A : Option Addr) (n c : Nat) (l : List Int) (W : World) (hl : l.length = n) (hC : (Kd.int .i64).C W A n l) (hc : n ≤ c) (hn : n ≤ 4000000000000000000) :
    Calls Tryd.prog 28 #[.slice A n c] W fun e w' => ∃ A1 c1, e = .returned (.slice A1 (soundL l).length c1) ∧ (soundL l).length ≤ c1 ∧ Aside0 ((Kd.int .i64).R 3 w' W.heap.size (fun _ => True) (.slice A1 (soundL l).length c1) (soundL l)) ∧ Aside0 (Below W.heap.size W w') := by
  subst hl
  refine (earshotlaw13_sound.calls 100 A c l _ W hC hc (rsound_f l hn 100 (by omega))).mono ?_
  rintro e w' ⟨v, rfl, hR, hb⟩
  obtain ⟨A1, c1, hv, h1, _⟩ := Kd.R_reads hR
  subst hv
  exact ⟨A1, c1, rfl, h1, ⟨hR⟩, ⟨hb⟩⟩
theorem rtail_d (A : Option Addr) (n c : Nat) (s h b cf p : Int) (l : List Int) (W : World) (hl : l.length = n) (hC : (Kd.int .i64).C W A n l) (hc : n ≤ c) (hn : n ≤ 1000) (hok : l.any badPU = false) (hp : 0 ≤ p ∧ p < 32768) (hs : 0 ≤ s ∧ s ≤ 1000) (hh : 1 ≤ h) (hhs : h ≤ s) :
    Calls Tryd.prog 37 #[.agg #[.int .i64 s, .int .i64 h, .int .i64 b, .int .i64 cf, .int .i64 p], .slice A n c] W fun e w' => ∃ A1 c1, e = .returned (.agg #[.int .i64 (n : Int), .int .i64 (lastL 0 l), .slice A1 (rssL s h b cf p l).length c1]) ∧ (rssL s h b cf p l).length ≤ c1 ∧ Aside0 ((Kd.int .i64).R 3 w' W.heap.size (fun _ => True) (.slice A1 (rssL s h b cf p l).length c1) (rssL s h b cf p l)) ∧ Aside0 (Below W.heap.size W w') := by
  subst hl
  refine (earshotref13_Tail.calls 2000 s h b cf p A c l _ _ _ W hC hc (rtail_f s h b cf p l hn hok hp hs hh hhs)).mono ?_
  rintro e w' ⟨v, rfl, hR, hb⟩
  obtain ⟨A1, c1, hv, h1, _⟩ := Kd.R_reads hR
  subst hv
  exact ⟨A1, c1, rfl, h1, ⟨hR⟩, ⟨hb⟩⟩
def earshotlaw13_FrontMoves.f (a0_0 a0_1 a0_2 : Int) (a0_3 a0_4 : Bool) (l1 : List Int) (a2 : Int) : Option (Bool) := if decide (l1.length ≤ 4000000000000000000) && decide (-9223372036854775808 ≤ a2) && decide (a2 ≤ 9223372036854775807) then some true else none
set_option maxHeartbeats 64000000 in
set_option maxRecDepth 100000 in
theorem moves_go (A0 : Option Addr) (n c0 : Nat) (x y z q : Int) (a d : Bool) (l : List Int) (w : World) (hG : GlobA w) (hl : l.length = n) (hC : (Kd.int .i64).C w A0 n l) (hnc : n ≤ c0) (hn : n ≤ 4000000000000000000) :
    Calls Tryd.prog 11 #[.agg #[.int .i64 x, .int .i64 y, .int .i64 z, .bool a, .bool d], .slice A0 n c0, .int .i64 q] w fun e w' => e = .returned (.bool true) ∧ Below w.heap.size w w' := by
  have hu39 := Tryd.underlying39
  have hu41 := Tryd.underlying41
  have hu60 := Tryd.underlying60
  have hu22 := Tryd.underlying22
  obtain ⟨N, hN⟩ : ∃ N : Nat, (N : Int) = specS a := ⟨(specS a).toNat, by cases a <;> decide⟩
  have hN1 : N = 16 ∨ N = 32 := by
    have : specS a = 16 ∨ specS a = 32 := by cases a <;> decide
    omega
  have hsr := spec_right x y z a d
  have hsp := spec_go x y z a d
  rw [← hN] at hsr hsp
  have hx0 := Int.emod_nonneg x (show (N : Int) ≠ 0 by omega)
  have hx1 := Int.emod_lt_of_pos x (show 0 < (N : Int) by omega)
  obtain ⟨Hp, hHp⟩ : ∃ H : Nat, (H : Int) = 1 + x % (N : Int) := ⟨(1 + x % (N : Int)).toNat, by omega⟩
  rw [← hHp] at hsr hsp
  have hH1 : 1 ≤ Hp := by omega
  have hHN : Hp ≤ N := by omega
  have hp0 := Int.emod_nonneg z (show (32768 : Int) ≠ 0 by decide)
  have hp1 := Int.emod_lt_of_pos z (show (0 : Int) < 32768 by decide)
  generalize specB d = b2 at hsr hsp
  generalize 1 + y % b2 = c2 at hsr hsp
  generalize z % 32768 = p2 at hsr hsp hp0 hp1
  have HSP : Aside0 (∀ W : World, Calls Tryd.prog 23 #[.agg #[.int .i64 x, .int .i64 y, .int .i64 z, .bool a, .bool d]] W fun e w' => e = .returned (.agg #[.int .i64 (N : Int), .int .i64 (Hp : Int), .int .i64 b2, .int .i64 c2, .int .i64 p2]) ∧ Below W.heap.size W w') := ⟨hsp⟩
  have HR2 := Aside0.mk hsr
  have HPP := Aside0.mk (And.intro hp0 hp1)
  have hN2 : N ≤ 32 := by omega
  have hN3 : 16 ≤ N := by omega
  have HG0 := Aside0.mk hG
  have hSl := soundL_len l
  have hSo := soundL_ok l
  have HSD : Aside0 (∀ W : World, (Kd.int .i64).C W A0 n l → Calls Tryd.prog 28 #[.slice A0 n c0] W fun e w' => ∃ A1 c1, e = .returned (.slice A1 (soundL l).length c1) ∧ (soundL l).length ≤ c1 ∧ Aside0 ((Kd.int .i64).R 3 w' W.heap.size (fun _ => True) (.slice A1 (soundL l).length c1) (soundL l)) ∧ Aside0 (Below W.heap.size W w')) := ⟨fun W hc => sound_d A0 n c0 l W hl hc hnc hn⟩
  have HC0 := Aside0.mk hC
  generalize soundL l = S at *
  obtain ⟨K, hK⟩ : ∃ k, S.length = k := ⟨_, rfl⟩
  rw [hK] at hSl
  obtain ⟨q1, q2, kk, m1, m2, m3, m4, hkk⟩ := cut_at q K (by omega)
  have x1 : IntKind.i64.wrap ((K : Int) + 1) = (K : Int) + 1 := by rw [IntKind.wrap_i64]; omega
  have x2 : IntKind.i64.wrap (kk : Int) = (kk : Int) := by rw [IntKind.wrap_i64]; omega
  have z0 : ¬ (K : Int) + 1 = 0 := by omega
  rw [hK] at HSD
  have HK := Aside0.mk hK
  have HSO := Aside0.mk hSo
  clear hsr hsp hG hN hN1 hx0 hx1 hHp hp0 hp1 hl hC hK hSo
  have ST0 : True := trivial
  go_enter Tryd.func11, Tryd.ntmps11
  go_upto_region 3 with (first
    | ((with_reducible refine gate_dst (N := 3) rfl ?_); refine box_event ?hg (N := 3) ?hd (cs := #[.int .i64 x, .int .i64 y, .int .i64 z, .bool a, .bool d]) (t := 41) ?hr ?_; (case hd => rfl); (case hg => first | rfl | exact wanted_on rfl rfl rfl (by first | assumption | rfl | (simp [*]; done))); (case hr => first | (go_simp; done) | (go_simp; rfl)); intro g3 hg3 w1 hbox hb; have B3 := Aside0.mk hbox; have HB1 := Aside0.mk hb; clear ST0 hbox hb hg3; have ST1 : True := trivial)
    | (go_at_call 22; clear ST1; (with_reducible refine (awake_go _ (HG0.out.below HB1.out)).mono ?_); rintro e_ w3 ⟨rfl, hb⟩; have HB3 := Aside0.mk (below_step HB1.out hb); have B3n := Aside0.mk (blk_below B3.out hb); clear hb HB1 B3; have B3 := B3n; clear B3n; have q0 := blk_cell B3.out 0; have q1 := blk_cell B3.out 1; have q2 := blk_cell B3.out 2; have q3 := blk_cell B3.out 3; have q4 := blk_cell B3.out 4; have ST3 : True := trivial)
    | (go_at_call 23; clear ST3; (with_reducible refine (HSP.out _).mono ?_); rintro e_ w4 ⟨rfl, hb⟩; have HB4 := Aside0.mk (below_step HB3.out hb); clear hb HB3 B3 q0 q1 q2 q3 q4; have ST4 : True := trivial)
    | ((with_reducible refine gate_dst (N := 8) rfl ?_); refine box_event ?hg (N := 8) ?hd (cs := #[.int .i64 0, .int .i64 0, .int .i64 0, .int .i64 0, .int .i64 0]) (t := 39) ?hr ?_; (case hd => rfl); (case hg => first | rfl | exact wanted_on rfl rfl rfl (by first | assumption | rfl | (simp [*]; done))); (case hr => first | (go_simp; done) | (go_simp; rfl)); intro g8 hg8 w5 hbox hb; have B8 := Aside0.mk hbox; have HB5 := Aside0.mk (below_step HB4.out hb); have hgl8 : w.heap.size ≤ g8 := (by rw [hg8]; exact HB4.out.size); clear ST4 hbox hb hg8 HB4; have q0 := blk_cell B8.out 0; have q1 := blk_cell B8.out 1; have q2 := blk_cell B8.out 2; have q3 := blk_cell B8.out 3; have q4 := blk_cell B8.out 4;have f0 := blk_frozen B8.out 0; have f1 := blk_frozen B8.out 1; have f2 := blk_frozen B8.out 2; have f3 := blk_frozen B8.out 3; have f4 := blk_frozen B8.out 4; have ST5 : True := trivial))
  obtain ⟨w6, hw6⟩ : ∃ W, fill5 w5 g8 (.int .i64 (N : Int)) (.int .i64 (Hp : Int)) (.int .i64 b2) (.int .i64 c2) (.int .i64 p2) = W := ⟨_, rfl⟩
  have B8n := Aside0.mk (hw6 ▸ fill5_at B8.out (.int .i64 (N : Int)) (.int .i64 (Hp : Int)) (.int .i64 b2) (.int .i64 c2) (.int .i64 p2))
  have HB6 := Aside0.mk (hw6 ▸ fill5_below HB5.out hgl8 (.int .i64 (N : Int)) (.int .i64 (Hp : Int)) (.int .i64 b2) (.int .i64 c2) (.int .i64 p2))
  unfold fill5 at hw6
  rw [hw6]
  clear hw6 B8 HB5 q0 q1 q2 q3 q4 f0 f1 f2 f3 f4
  go_upto_region 6 with (first
    | (go_at_call 28; clear ST5; (with_reducible refine (HSD.out _ (Kd.C_below HC0.out HB6.out)).mono ?_); rintro e_ wb ⟨AS, cS, rfl, hcS, HRS, hb⟩; have HB7 := Aside0.mk (below_step HB6.out hb.out); have B8 := Aside0.mk (blk_below B8n.out hb.out); clear hb HB6 B8n; have ST6 : True := trivial))
  have hKS := HK.out
  have HBw0 := HB7
  obtain ⟨P, hP⟩ : ∃ L, S.take kk = L := ⟨_, rfl⟩
  obtain ⟨Q, hQ⟩ : ∃ L, S.drop kk = L := ⟨_, rfl⟩
  have hPQ : P ++ Q = S := by rw [← hP, ← hQ, List.take_append_drop]
  have hPl : P.length = kk := by rw [← hP, List.length_take]; omega
  have hQl : Q.length = K - kk := by rw [← hQ, List.length_drop]; omega
  have hPo : P.any badPU = false := by
    have := HSO.out
    rw [← hPQ, List.any_append, Bool.or_eq_false_iff] at this
    exact this.1
  have hQo : Q.any badPU = false := by
    have := HSO.out
    rw [← hPQ, List.any_append, Bool.or_eq_false_iff] at this
    exact this.2
  have hCS : (Kd.int .i64).C wb AS K S := R_C HRS.out
  have hCP : (Kd.int .i64).C wb AS kk P := by
    have h1 := hCS
    rw [← hKS] at h1
    have := Kd.C_take h1 (m := kk) (by omega)
    rwa [hP, hPl] at this
  obtain ⟨AQ, hAQ⟩ : ∃ A, (if cS = kk then AS else AS.map (·.add kk)) = A := ⟨_, rfl⟩
  have hCQ : (Kd.int .i64).C wb AQ (K - kk) Q := by
    have h1 := hCS
    rw [← hKS] at h1
    have := Kd.C_drop h1 (m := kk) (c := cS) (by omega) (by omega)
    rw [hQ, hQl, show kk * (Kd.int IntKind.i64).sz = kk by show kk * 1 = kk; omega, hAQ] at this
    exact this
  have hBS : ∀ ad, AS = some ad → 0 < K → ad.block < wb.heap.size := fun ad e h => by
    obtain ⟨gr, cr, hfe, _, h2, _⟩ := Kd.R_form HRS.out (by omega)
    injection hfe with e1 _ _
    rw [e1] at e
    injection e with e
    rw [← e]; exact h2
  have hBQ : ∀ ad, AQ = some ad → 0 < K → ad.block < wb.heap.size := fun ad e h => by
    rw [← hAQ] at e
    split at e
    · exact hBS ad e h
    · obtain ⟨ad0, h0, h1⟩ := Option.map_eq_some_iff.1 e
      rw [← h1, add_block]
      exact hBS ad0 h0 h
  have HBS := Aside0.mk hBS
  have HBQ := Aside0.mk hBQ
  have HCP := Aside0.mk hCP
  have HCQ := Aside0.mk hCQ
  have HPO := Aside0.mk hPo
  have HQO := Aside0.mk hQo
  have HPL := Aside0.mk hPl
  have HQL := Aside0.mk hQl
  have HPQ := Aside0.mk hPQ
  have HGW := Aside0.mk (HG0.out.below HB7.out)
  have hw1 : 1 ≤ wb.heap.size := HGW.out.1
  obtain ⟨RP, hRP⟩ : ∃ R, rssL (N : Int) (Hp : Int) b2 c2 p2 P = R := ⟨_, rfl⟩
  obtain ⟨lp, hlp⟩ : ∃ r, lastL 0 P = r := ⟨_, rfl⟩
  have hrp : RP.length ≤ 64 := by
    have := rssL_len (s := (N : Int)) (h := (Hp : Int)) (b := b2) (c := c2) (p := p2) (by omega) (by omega) P
    rw [hRP] at this
    omega
  have HRP := Aside0.mk hRP
  have HLP := Aside0.mk hlp
  obtain ⟨mp, hmp⟩ : ∃ k, RP.length = k := ⟨_, rfl⟩
  have HMP := Aside0.mk hmp
  rw [hmp] at hrp
  have hok : setOk (N : Int) (Hp : Int) (kk : Int) lp RP = true := by
    have := ok_state (N : Int) (Hp : Int) b2 c2 p2 P (by omega) hPo HPP.out (by omega) (by omega) (by omega)
    rwa [hPl, hRP, hlp] at this
  have HOK := Aside0.mk hok
  have HNW : Aside0 (∀ W : World, GlobA W → Calls Tryd.prog 30 #[.agg #[.int .i64 (N : Int), .int .i64 (Hp : Int), .int .i64 b2, .int .i64 c2, .int .i64 p2]] W fun e w' => ∃ g, e = .returned (.pointer (some ⟨g, 0, none⟩)) ∧ W.heap.size ≤ g ∧ w'.heap[g]? = some (.cells (strC (N : Int) (Hp : Int) b2 c2 p2 0 0 (.slice none 0 0)) 86 (0, 0)) ∧ Below W.heap.size W w') := ⟨fun W hg => new_yes _ _ b2 c2 p2 W hg HR2.out⟩
  have HP1 : Aside0 (∀ (g : Nat) (W : World), Below wb.heap.size wb W → StrAt W g wb.heap.size (N : Int) (Hp : Int) b2 c2 p2 0 0 (.slice none 0 0) [] → Calls Tryd.prog 31 #[.pointer (some ⟨g, 0, none⟩), .slice AS kk cS] W fun e w' => ∃ A1 n1 c1 v2, e = .returned (.tuple #[.slice A1 n1 c1, .int .i64 0]) ∧ Aside0 (StrAt w' g wb.heap.size (N : Int) (Hp : Int) b2 c2 p2 (kk : Int) lp v2 RP) ∧ Aside0 (Below wb.heap.size wb w')) := ⟨fun g W hb hs => by
    have hgw : g < W.heap.size := blk_lt hs.1
    have hgb : wb.heap.size ≤ g := hs.2.1
    have H := push_st AS cS kk g wb.heap.size N Hp b2 c2 p2 [] P (frsL (N : Int) (Hp : Int) b2 c2 p2 P) (.slice none 0 0) W (HGW.out.below hb) hw1 hb.size (st_new (by omega) hs) HPL.out (Kd.C_below HCP.out hb) (fun ad e h => ⟨by have := HBS.out ad e (by omega); omega, fun e_ => by cases e_⟩) HPO.out (by decide) HPP.out (by omega) hH1 hHN (by omega) (by omega) (by decide) (by rw [frs_nil (by omega)]; rfl)
    refine H.mono ?_
    rintro e_ w2 ⟨A1, c1, v2, rfl, _, hS2, hO2, hK2, hv2⟩
    refine ⟨A1, _, c1, v2, rfl, ⟨?_⟩, ⟨keeps_step hb hs hK2.out⟩⟩
    have h2 := hS2.out
    rw [List.nil_append, HPL.out, HLP.out, HRP.out] at h2
    exact h2⟩
  have HTL : Aside0 (∀ (g : Nat) (v' : Value) (W : World), StrAt W g wb.heap.size (N : Int) (Hp : Int) b2 c2 p2 (kk : Int) lp v' RP → Calls Tryd.prog 36 #[.pointer (some ⟨g, 0, none⟩)] W fun e w' => ∃ A1 c1, e = .returned (.agg #[.int .i64 (kk : Int), .int .i64 lp, .slice A1 mp c1]) ∧ Aside0 ((Kd.int .i64).R 3 w' W.heap.size (fun _ => True) (.slice A1 mp c1) RP) ∧ Aside0 (Below W.heap.size W w')) := ⟨fun g v' W hs => by
    have := tail_go g wb.heap.size _ _ b2 c2 p2 (kk : Int) lp v' RP W hs (by rw [HMP.out]; omega)
    rwa [HMP.out] at this⟩
  have HRT : Aside0 (∀ W : World, Below wb.heap.size wb W → Calls Tryd.prog 37 #[.agg #[.int .i64 (N : Int), .int .i64 (Hp : Int), .int .i64 b2, .int .i64 c2, .int .i64 p2], .slice AS kk cS] W fun e w' => ∃ A1 c1, e = .returned (.agg #[.int .i64 (kk : Int), .int .i64 lp, .slice A1 mp c1]) ∧ mp ≤ c1 ∧ Aside0 ((Kd.int .i64).R 3 w' W.heap.size (fun _ => True) (.slice A1 mp c1) RP) ∧ Aside0 (Below W.heap.size W w')) := ⟨fun W hb => by
    have := rtail_d AS kk cS (N : Int) (Hp : Int) b2 c2 p2 P W HPL.out (Kd.C_below HCP.out hb) (by omega) (by omega) HPO.out HPP.out ⟨by omega, by omega⟩ (by omega) (by omega)
    rwa [HLP.out, HRP.out, HMP.out] at this⟩
  have q0 := blk_cell B8.out 0
  have q1 := blk_cell B8.out 1
  have q2 := blk_cell B8.out 2
  have q3 := blk_cell B8.out 3
  have q4 := blk_cell B8.out 4
  clear hP hQ hPQ hPl hQl hPo hQo hCS hCP hCQ hBS hBQ hRP hlp hmp hok m1 m2 m3 m4 hKS HK HSO HRS
  have ST0 : True := trivial
  go_upto_region 9 with (first
    | (go_at_call 30; clear ST0; (with_reducible refine (HNW.out _ HGW.out).mono ?_); rintro e_ w1 ⟨gs, rfl, hg, hbk, B1⟩; have hgs1 : gs < w1.heap.size := blk_lt hbk; have hgs0 : wb.heap.size ≤ gs := hg; have HB1 := Aside0.mk B1; have HS1 : Aside0 (StrAt w1 gs wb.heap.size (N : Int) (Hp : Int) b2 c2 p2 0 0 (.slice none 0 0) []) := ⟨StrAt.new hbk hg⟩; clear hbk B1 hg q0 q1 q2 q3 q4; have ST1 : True := trivial)
    | (go_at_call 31; clear ST1; (with_reducible refine (HP1.out gs w1 HB1.out HS1.out).mono ?_); rintro e_ w2 ⟨A1, n1, d1, v2, rfl, HS2, HB2⟩; have hgs2 : gs < w2.heap.size := blk_lt HS2.out.1; clear HS1 HB1 hgs1; have ST2 : True := trivial)
    | (go_at_call 36; clear ST2; (with_reducible refine (HTL.out gs v2 _ HS2.out).mono ?_); rintro e_ w3 ⟨At, ct, rfl, HRT3, B1⟩; have hv2w : ∀ k, v2.ownBlock = some k → k < w2.heap.size := (fun k hk => (HS2.out.ne k hk).2.2); have HS3 := Aside0.mk (HS2.out.below B1.out); have HB3 := Aside0.mk (below_step HB2.out B1.out); have hsz2 := HB2.out.size; have hsz3 := B1.out.size; clear B1; have ST3 : True := trivial)
    | ((with_reducible refine gate_dst (N := 13) rfl ?_); refine box_event ?hg (N := 13) ?hd (cs := #[.int .i64 0, .int .i64 0, .slice none 0 0]) (t := 60) ?hr ?_; (case hd => rfl); (case hg => first | rfl | exact wanted_on rfl rfl rfl (by first | assumption | rfl | (simp [*]; done))); (case hr => first | (go_simp; done) | (go_simp; rfl)); intro g13 hg13 w4 hbox hb; have B13 := Aside0.mk hbox; have HB4 := Aside0.mk (below_step HB3.out hb); have HS4 := Aside0.mk (HS3.out.below hb); have HRT4 := Aside0.mk (Kd.R_below HRT3.out hb); have hn13 : gs ≠ g13 := (by rw [hg13]; exact Nat.ne_of_lt (blk_lt HS3.out.1)); have hv13 : some g13 ≠ v2.ownBlock := (fun e_ => by have := (HS3.out.ne g13 e_.symm).2.2; omega); have hrt13 : ∀ q, (Value.slice At mp ct).ownBlock = some q → q ≠ g13 := (fun q hq e_ => by have := Kd.R_lt HRT3.out q hq; omega); have hg13w : wb.heap.size ≤ g13 := (by omega); clear ST3 hbox hb HB3 HS3 HRT3 hg13; have q0 := blk_cell B13.out 0; have q1 := blk_cell B13.out 1; have q2 := blk_cell B13.out 2;have f0 := blk_frozen B13.out 0; have f1 := blk_frozen B13.out 1; have f2 := blk_frozen B13.out 2; have ST4 : True := trivial))
  obtain ⟨w5, hw5⟩ : ∃ W, fill3 w4 g13 (.int .i64 (kk : Int)) (.int .i64 lp) (.slice At mp ct) = W := ⟨_, rfl⟩
  have B13n := Aside0.mk (hw5 ▸ fill3_at B13.out (.int .i64 (kk : Int)) (.int .i64 lp) (.slice At mp ct))
  have HB5 := Aside0.mk (hw5 ▸ fill3_below HB4.out hg13w (.int .i64 (kk : Int)) (.int .i64 lp) (.slice At mp ct))
  have HS5 := Aside0.mk (hw5 ▸ HS4.out.far hn13 hv13 (.int .i64 (kk : Int)) (.int .i64 lp) (.slice At mp ct))
  have HRT5 := Aside0.mk (hw5 ▸ fill3_R (Kd.R_tight rfl HRT4.out) (g := g13) (fun q hq => hrt13 q hq.symm) (.int .i64 (kk : Int)) (.int .i64 lp) (.slice At mp ct))
  unfold fill3 at hw5
  rw [hw5]
  clear hw5 B13 HB4 HS4 HRT4 q0 q1 q2 f0 f1 f2 hrt13 HS2 HB2
  have HRT9 : Aside0 (∀ W : World, Below w5.heap.size w5 W → Calls Tryd.prog 37 #[.agg #[.int .i64 (N : Int), .int .i64 (Hp : Int), .int .i64 b2, .int .i64 c2, .int .i64 p2], .slice AS kk cS] W fun e w' => ∃ A1 c1, e = .returned (.agg #[.int .i64 (kk : Int), .int .i64 lp, .slice A1 mp c1]) ∧ mp ≤ c1 ∧ Aside0 ((Kd.int .i64).R 3 w' W.heap.size (fun _ => True) (.slice A1 mp c1) RP) ∧ Aside0 (Below W.heap.size W w') ∧ Aside0 (Below w5.heap.size w5 w')) := ⟨fun W hb => (HRT.out W (below_step HB5.out hb)).mono fun e w' ⟨A1, c1, a, b, r, q⟩ => ⟨A1, c1, a, b, r, q, ⟨below_step hb q.out⟩⟩⟩
  have HRT9b : Aside0 (Calls Tryd.prog 37 #[.agg #[.int .i64 (N : Int), .int .i64 (Hp : Int), .int .i64 b2, .int .i64 c2, .int .i64 p2], .slice AS kk cS] (w5.alloc (.cells #[.int .i64 0, .int .i64 0, .slice none 0 0] 60)).drew fun e w' => ∃ A1 c1, e = .returned (.agg #[.int .i64 (kk : Int), .int .i64 lp, .slice A1 mp c1]) ∧ mp ≤ c1 ∧ Aside0 ((Kd.int .i64).R 3 w' w5.heap.size (fun q => q ≠ w5.heap.size) (.slice A1 mp c1) RP) ∧ Aside0 (w'.heap[w5.heap.size]? = some (.cells #[.int .i64 0, .int .i64 0, .slice none 0 0] 60 (0, 0))) ∧ Aside0 (Below w5.heap.size w5 w')) := ⟨by
    obtain ⟨W0, hW0⟩ : ∃ W, (w5.alloc (.cells #[.int .i64 0, .int .i64 0, .slice none 0 0] 60)).drew = W := ⟨_, rfl⟩
    have hb0 : Below w5.heap.size w5 W0 := by rw [← hW0]; exact below_drew (below_alloc (Below.refl _ _) _)
    have hx : W0.heap[w5.heap.size]? = some (.cells #[.int .i64 0, .int .i64 0, .slice none 0 0] 60 (0, 0)) := by rw [← hW0]; exact heap_alloc_new w5 _
    have hlt : w5.heap.size < W0.heap.size := blk_lt hx
    rw [hW0]
    refine (HRT9.out W0 hb0).mono ?_
    rintro e_ w' ⟨A1, c1, rfl, h1, r, hs, hb⟩
    exact ⟨A1, c1, rfl, h1, ⟨Kd.R_lower (Kd.R_mono (Kd.R_bound r.out) (fun q hq => by have := hq.2.1; omega)) (Nat.le_of_lt hlt)⟩, ⟨blk_below hx hs.out⟩, hb⟩⟩
  have q0 := blk_cell (blk_below B8.out HB5.out) 0
  have q1 := blk_cell (blk_below B8.out HB5.out) 1
  have q2 := blk_cell (blk_below B8.out HB5.out) 2
  have q3 := blk_cell (blk_below B8.out HB5.out) 3
  have q4 := blk_cell (blk_below B8.out HB5.out) 4
  have hg8w5 : g8 < w5.heap.size := blk_lt (blk_below B8.out HB5.out)
  have a1 : (0 : Int) ≤ (kk : Int) := by omega
  have a2 : (kk : Int) ≤ (cS : Int) := by omega
  have a3 : (kk : Int) ≤ (K : Int) := by omega
  clear HRT HTL HP1
  go_cut [14] from 24 (fun v W => ∃ g14 Aw cw, v = .pointer (some ⟨g14, 0, none⟩) ∧ mp ≤ cw ∧ w5.heap.size ≤ g14 ∧ Aside0 (W.heap[g14]? = some (.cells #[.int .i64 (kk : Int), .int .i64 lp, .slice Aw mp cw] 60 (0, 0))) ∧ Aside0 ((Kd.int .i64).R 3 W w5.heap.size (fun _ => True) (.slice Aw mp cw) RP) ∧ Aside0 (Below w5.heap.size w5 W))
  case first =>
    go_region_law (first
      | (go_simp; go_at_call 37; (with_reducible refine HRT9b.out.mono ?_); rintro e_ w6 ⟨Aw, cw, rfl, hcw, HRW, HX, HB6⟩; clear q0 q1 q2 q3 q4; have q0 := blk_cell HX.out 0; have q1 := blk_cell HX.out 1; have q2 := blk_cell HX.out 2; have f0 := blk_frozen HX.out 0; have f1 := blk_frozen HX.out 1; have f2 := blk_frozen HX.out 2)
      | (go_simp; go_at_call 37; (with_reducible refine (HRT9.out _ ?hb).mono ?_); (case hb => repeat (first | exact Below.refl _ _ | apply below_alloc | apply pw_below_drewN | apply below_drew1)); rintro e_ w6 ⟨Aw, cw, rfl, hcw, HRW, hs, HB6⟩; clear q0 q1 q2 q3 q4))
    all_goals
      go_wp2_with fail
      go_meet
      case rel =>
        first
        | exact ⟨w5.heap.size, Aw, cw, rfl, hcw, Nat.le_refl _, ⟨fill3_at HX.out _ _ _⟩, ⟨Kd.R_mono (fill3_R (g := w5.heap.size) HRW.out (fun q hq => hq) _ _ _) (fun _ _ => trivial)⟩, ⟨fill3_below HB6.out (Nat.le_refl _) _ _ _⟩⟩
        | exact ⟨w6.heap.size, Aw, cw, rfl, hcw, HB6.out.size, ⟨heap_alloc_new w6 _⟩, ⟨Kd.R_alloc (Kd.R_lower HRW.out (by simp)) _⟩, ⟨below_step HB6.out (below_alloc (Below.refl _ _) _)⟩⟩
  case rest =>
  obtain ⟨g14, Aw, cw, rfl, hcw, hg14, B14, HRW, HB14⟩ := hcut
  have HBw := Aside0.mk (below_step HB5.out HB14.out)
  have HSw := Aside0.mk (HS5.out.below HB14.out)
  have B13w := Aside0.mk (blk_below B13n.out HB14.out)
  have HRTw := Aside0.mk (Kd.R_below HRT5.out HB14.out)
  have hmt : mp ≤ ct := (Kd.R_reads' HRTw.out).2.1
  have HSM : Aside0 (Calls Tryd.prog 16 #[.slice At mp ct, .slice Aw mp cw] wc fun e w' => e = .returned (.bool true) ∧ Aside0 (Below wb.heap.size wb w') ∧ Aside0 (Below wc.heap.size wc w')) := ⟨same_c At mp ct Aw cw RP RP wc HBw.out HMP.out rfl (R_C HRTw.out) (R_C HRW.out) hmt hcw (by omega)⟩
  have HRW2 := Aside0.mk (R_C HRW.out)
  have q0 := blk_cell B13w.out 0
  have q1 := blk_cell B13w.out 1
  have q2 := blk_cell B13w.out 2
  have r0 := blk_cell B14.out 0
  have r1 := blk_cell B14.out 1
  have r2 := blk_cell B14.out 2
  have ST0 : True := trivial
  clear HRT9 HRT9b HB5 HS5 B13n HRT5
  go_upto_region 13 with (first
    | (go_at_call 16; clear ST0; (with_reducible refine HSM.out.mono ?_); rintro e_ w7 ⟨rfl, HB7w, hs⟩; have HS7 := Aside0.mk (HSw.out.below hs.out); have B137 := Aside0.mk (blk_below B13w.out hs.out); have B147 := Aside0.mk (blk_below B14.out hs.out); have HRT7 := Aside0.mk (Kd.R_below HRTw.out hs.out); clear HSM HSw B13w B14 HRTw q0 q1 q2 r0 r1 r2 HRW HRW2 HBw HB14; have hs7 := hs.out.size; clear hs; have q0 := blk_cell B137.out 0; have q1 := blk_cell B137.out 1; have q2 := blk_cell B137.out 2; have r0 := blk_cell B147.out 0; have r1 := blk_cell B147.out 1; have r2 := blk_cell B147.out 2; have ST1 : True := trivial))
  have hw7 : 1 ≤ w7.heap.size := by have := HB7w.out.size; omega
  have HGS7 : Aside0 (gs < w7.heap.size) := ⟨blk_lt HS7.out.1⟩
  have HV27 : Aside0 (∀ k, v2.ownBlock = some k → k < w7.heap.size) := ⟨fun k hk => (HS7.out.ne k hk).2.2⟩
  have HG7 := Aside0.mk (HGW.out.below HB7w.out)
  obtain ⟨R5, hR5⟩ : ∃ R, rssL (N : Int) (Hp : Int) b2 c2 p2 [5, 6, 7] = R := ⟨_, rfl⟩
  have hr5 : R5.length ≤ 64 := by
    have := rssL_len (s := (N : Int)) (h := (Hp : Int)) (b := b2) (c := c2) (p := p2) (by omega) (by omega) [5, 6, 7]
    rw [hR5] at this
    omega
  have HP2 : Aside0 (∀ (g : Nat) (W : World), Below w7.heap.size w7 W → StrAt W g w7.heap.size (N : Int) (Hp : Int) b2 c2 p2 0 0 (.slice none 0 0) [] → Calls Tryd.prog 31 #[.pointer (some ⟨g, 0, none⟩), .slice (some ⟨W.heap.size, 0, none⟩) 3 3] (W.alloc (.cells #[.int .i64 5, .int .i64 6, .int .i64 7] 3)) fun e w' => ∃ A1 n1 c1 v2, e = .returned (.tuple #[.slice A1 n1 c1, .int .i64 0]) ∧ Aside0 (StrAt w' g w7.heap.size (N : Int) (Hp : Int) b2 c2 p2 3 7 v2 R5) ∧ Aside0 (Below w7.heap.size w7 w')) := ⟨fun g W hb hs => by
    have ha := below_alloc (Below.refl W.heap.size W) (.cells #[.int .i64 5, .int .i64 6, .int .i64 7] 3)
    have hst := hs.below ha
    have hbw := below_step hb ha
    have H := push_st (some ⟨W.heap.size, 0, none⟩) 3 3 g w7.heap.size N Hp b2 c2 p2 [] [5, 6, 7] (frsL (N : Int) (Hp : Int) b2 c2 p2 [5, 6, 7]) (.slice none 0 0) _ (HG7.out.below hbw) hw7 hbw.size (st_new (by omega) hst) rfl (lit_c W [5, 6, 7]) (far_new (W := W) (v := .slice none 0 0) (blk_lt hs.1) (fun k hk => by simp [Value.ownBlock] at hk) 3) (by decide +kernel) (by decide) HPP.out (by omega) hH1 hHN (by omega) (by omega) (by decide) (by rw [frs_nil (by omega)]; rfl)
    refine H.mono ?_
    rintro e_ w2 ⟨A1, c1, v2, rfl, _, hS2, hO2, hK2, hv2⟩
    refine ⟨A1, _, c1, v2, rfl, ⟨?_⟩, ⟨keeps_step hbw hst hK2.out⟩⟩
    have := hS2.out
    rw [← hR5]
    exact this⟩
  have HST : Aside0 (∀ (g : Nat) (v : Value) (W : World), StrAt W g w7.heap.size (N : Int) (Hp : Int) b2 c2 p2 3 7 v R5 → (Kd.int .i64).C W At mp RP → Calls Tryd.prog 38 #[.pointer (some ⟨g, 0, none⟩), .agg #[.int .i64 (kk : Int), .int .i64 lp, .slice At mp ct]] W fun e w' => ∃ v', e = .returned (.int .i64 0) ∧ Aside0 (StrAt w' g w7.heap.size (N : Int) (Hp : Int) b2 c2 p2 (kk : Int) lp v' RP) ∧ Aside0 (Keeps W w' g none) ∧ Aside0 (∀ k, v'.ownBlock = some k → W.heap.size ≤ k)) := ⟨fun g v W hs hc => (set_yes At ct mp g w7.heap.size _ _ b2 c2 p2 3 7 (kk : Int) lp v R5 RP W hs ⟨by omega, by omega⟩ ⟨by omega, by omega⟩ (by omega) HMP.out hc (by omega) HOK.out).mono fun e w' ⟨v', a, b, c, d⟩ => ⟨v', a, ⟨b⟩, ⟨c⟩, ⟨d⟩⟩⟩
  clear q0 q1 q2 r0 r1 r2 hR5 hr5 B147 ST1
  have q0 := blk_cell (blk_below B8.out HB7w.out) 0
  have q1 := blk_cell (blk_below B8.out HB7w.out) 1
  have q2 := blk_cell (blk_below B8.out HB7w.out) 2
  have q3 := blk_cell (blk_below B8.out HB7w.out) 3
  have q4 := blk_cell (blk_below B8.out HB7w.out) 4
  have ST0 : True := trivial
  go_upto_region 16 with (first
    | (go_at_call 30; clear ST0; (with_reducible refine (HNW.out _ HG7.out).mono ?_); rintro e_ w8 ⟨gu, rfl, hg, hbk, B1⟩; have hgu0 : w7.heap.size ≤ gu := hg; have HB8 := Aside0.mk B1; have HU8 : Aside0 (StrAt w8 gu w7.heap.size (N : Int) (Hp : Int) b2 c2 p2 0 0 (.slice none 0 0) []) := ⟨StrAt.new hbk hg⟩; clear hbk B1 hg q0 q1 q2 q3 q4; have ST1 : True := trivial)
    | (go_at_call 31; clear ST1; (with_reducible refine (HP2.out gu w8 HB8.out HU8.out).mono ?_); rintro e_ w9 ⟨A2, n2, d2, v3, rfl, HU9, HB9⟩; have hgu9 : gu < w9.heap.size := blk_lt HU9.out.1; clear HU8 HB8; have q0 := blk_cell (blk_below B137.out HB9.out) 0; have q1 := blk_cell (blk_below B137.out HB9.out) 1; have q2 := blk_cell (blk_below B137.out HB9.out) 2; have ST2 : True := trivial)
    | (go_at_call 38; clear ST2; refine (HST.out gu v3 _ HU9.out ?hc).mono ?_; (case hc => exact Kd.C_below (R_C HRT7.out) HB9.out); rintro e_ w10 ⟨v4, rfl, HU10, HK10, HV10⟩; have HB10 := Aside0.mk (HB9.out.trans (HK10.out.toBelow HB9.out.size hgu0 (fun k hk => by cases hk))); have hs9 := HB9.out.size; have hs10 := HB10.out.size; clear HU9 HK10 HB9 q0 q1 q2))
  have HS10 := Aside0.mk (HS7.out.below HB10.out)
  have B1310 := Aside0.mk (blk_below B137.out HB10.out)
  have HRT10 : Aside0 ((Kd.int .i64).R 3 w10 w2.heap.size (fun q => q ≠ g13) (.slice At mp ct) RP) := ⟨Kd.R_mono (Kd.R_types (Kd.R_below HRT7.out HB10.out) B1310.out (fun q hq => by
    rcases List.mem_cons.1 hq with h | h
    · rw [h]; decide
    · cases h)) (fun q hq => hq.2)⟩
  obtain ⟨gt, g1, g2, g3, g3t, g4, g5, g7⟩ : ∃ gt, (0 < mp → At = some ⟨gt, 0, none⟩) ∧ wb.heap.size ≤ gt ∧ gt ≠ gs ∧ gt ≠ gu ∧ some gt ≠ v2.ownBlock ∧ some gt ≠ v4.ownBlock ∧ gt ≠ g13 := by
    have k1 := blk_lt HS10.out.1
    have k2 := blk_lt HU10.out.1
    have k3 := blk_lt B1310.out
    have k4 := HB7w.out.size
    by_cases hm : 0 < mp
    · obtain ⟨gr, cr, hfe, h1, h2, _⟩ := Kd.R_form HRT7.out (by rw [HMP.out]; exact hm)
      have hown : (Value.slice At mp ct).ownBlock = some gr := by rw [hfe]; rfl
      have h3 := HRT10.out.1 gr hown
      injection hfe with e1 _ _
      exact ⟨gr, fun _ => e1, by omega, by omega, by omega, fun e => by have := hv2w gr e.symm; omega, fun e => by have := HV10.out gr e.symm; omega, h3⟩
    · exact ⟨w10.heap.size, fun h => absurd h hm, by omega, by omega, by omega, fun e => by have := (HS10.out.ne _ e.symm).2.2; omega, fun e => by have := (HU10.out.ne _ e.symm).2.2; omega, by omega⟩
  have HKP : Aside0 (Keeps w10 w10 gt none) := ⟨Keeps.refl _ _ _⟩
  have hg13t : g13 ≠ gt := fun e => g7 e.symm
  clear HP2 HST HNW HRT7 B137 HS7
  go_wp2
  go_loopw [18] (fun x wr => ∃ (i : Nat) (rr : List Int), i ≤ mp ∧ x = .int .i64 (i : Int) ∧ Aside0 (rr.length = mp) ∧ Aside0 (Keeps w10 wr gt none) ∧ Aside0 (wr.heap[g13]? = some (.cells #[.int .i64 (kk : Int), .int .i64 lp, .slice At mp ct] 60 (0, 0))) ∧ Aside0 ((Kd.int .i64).R 3 wr w2.heap.size (fun q => q ≠ g13) (.slice At mp ct) rr)) (fun x _ => mp - (intOf x).toNat)
  case atStart => exact ⟨0, RP, by omega, rfl, HMP, HKP, B1310, HRT10⟩
  case round =>
    clear HKP B1310 HRT10
    obtain ⟨i, rr, hi, rfl, HL, HK, B13r, HR⟩ := hrel
    have q2 := blk_cell B13r.out 2
    by_cases hlt : i < mp
    · have e1 := g1 (by omega)
      subst e1
      have hcell := Kd.R_celln (0 : Int) HR.out (i : Int) (by omega) (by omega)
      have hput := Aside0.mk (Kd.R_putn HR.out (i : Int) 9)
      rw [Int.toNat_natCast] at hcell hput
      obtain ⟨k0c, k0f⟩ := hcell
      have j0 : (0 : Int) ≤ (i : Int) := by omega
      have j1 : (i : Int) < (mp : Int) := by omega
      go_wp2
      go_roundw
      case rel => exact ⟨i + 1, rr.set i 9, by omega, by go_num, ⟨by rw [List.length_set]; exact HL.out⟩, ⟨HK.out.set i _⟩, ⟨blk_far B13r.out hg13t _⟩, hput⟩
      case measure => simp [intOf]; omega
    · obtain rfl : mp = i := by omega
      have j1 : ¬ (mp : Int) < (mp : Int) := by omega
      have HBb := Aside0.mk (below_step HB7w.out HB10.out)
      have HBr := Aside0.mk (HBb.out.trans (HK.out.toBelow HBb.out.size g2 (fun k hk => by cases hk)))
      have HSr := Aside0.mk (HS10.out.keep HK.out (fun e => g3 e.symm) (fun e => by cases e) (fun k hk => ⟨fun e => g4 (by rw [hk, e]), fun e => by cases e⟩))
      have HUr := Aside0.mk (HU10.out.keep HK.out (fun e => g3t e.symm) (fun e => by cases e) (fun k hk => ⟨fun e => g5 (by rw [hk, e]), fun e => by cases e⟩))
      clear HS10 HU10 HK HBb
      obtain ⟨T, hT⟩ : ∃ T, frsL (N : Int) (Hp : Int) b2 c2 p2 (P ++ Q) = frsL (N : Int) (Hp : Int) b2 c2 p2 P ++ T := ⟨_, (cut_step (s := (N : Int)) (h := (Hp : Int)) (b := b2) (c := c2) (p := p2) (by omega) (by omega) (by omega) P Q).1⟩
      obtain ⟨tl, htl⟩ : ∃ k, T.length = k := ⟨_, rfl⟩
      obtain ⟨lS, hlS⟩ : ∃ r, lastL 0 (P ++ Q) = r := ⟨_, rfl⟩
      obtain ⟨RS, hRS⟩ : ∃ R, rssL (N : Int) (Hp : Int) b2 c2 p2 (P ++ Q) = R := ⟨_, rfl⟩
      have hPQl : (P ++ Q).length = K := by rw [List.length_append, HPL.out, HQL.out]; omega
      have htl2 : tl ≤ 200 := by
        have h1 := cutN_len (N : Int) (Hp : Int) b2 c2 p2 ((flatL p2 0 (P ++ Q)).length + 1) (flatL p2 0 (P ++ Q))
        have h2 : (frsL (N : Int) (Hp : Int) b2 c2 p2 (P ++ Q)).length ≤ (flatL p2 0 (P ++ Q)).length + 1 := h1
        rw [hT, List.length_append, flatL_length, hPQl] at h2
        omega
      have hTr : ∀ r ∈ T, r.length ≤ 1000 := fun r hr => by
        have h1 : r ∈ frsL (N : Int) (Hp : Int) b2 c2 p2 (P ++ Q) := by rw [hT]; exact List.mem_append_right _ hr
        have := cutA_rows (s := (N : Int)) (h := (Hp : Int)) (b := b2) (c := c2) (p := p2) (by omega) (by omega) _ _ (Nat.le_refl _) r h1
        omega
      have HPG : Aside0 (∀ (g b0 c : Nat) (v : Value) (W : World), GlobA W → wb.heap.size ≤ b0 → b0 ≤ W.heap.size → (Kd.int .i64).C W AQ (K - kk) Q → StrAt W g b0 (N : Int) (Hp : Int) b2 c2 p2 (kk : Int) lp v RP → Calls Tryd.prog 31 #[.pointer (some ⟨g, 0, none⟩), .slice AQ (K - kk) c] W fun e w' => ∃ A1 c1 v', e = .returned (.tuple #[.slice A1 tl c1, .int .i64 0]) ∧ tl ≤ c1 ∧ Aside0 (StrAt w' g b0 (N : Int) (Hp : Int) b2 c2 p2 (K : Int) lS v' RS) ∧ Aside0 (R2 w' W.heap.size (fun q => some q ≠ v'.ownBlock) (.slice A1 tl c1) T) ∧ Aside0 (Keeps W w' g v.ownBlock) ∧ Aside0 (∀ k, v'.ownBlock = some k → some k = v.ownBlock ∨ W.heap.size ≤ k)) := ⟨fun g b0 c v W hg h0 h1 hc hs => by
        have hs2 : StrAt W g b0 (N : Int) (Hp : Int) b2 c2 p2 (P.length : Int) (lastL 0 P) v (rssL (N : Int) (Hp : Int) b2 c2 p2 P) := by rw [HPL.out, HLP.out, HRP.out]; exact hs
        have hA : ∀ ad, AQ = some ad → 0 < K - kk → ad.block ≠ g ∧ some ad.block ≠ v.ownBlock := fun ad e h => by
          have h3 := HBQ.out ad e (by omega)
          have h4 := hs.2.1
          exact ⟨by omega, fun e_ => by have := (hs.ne _ e_.symm).2.1; omega⟩
        have H := push_st AQ c (K - kk) g b0 N Hp b2 c2 p2 P Q T v W hg (by omega) h1 hs2 HQL.out hc hA HQO.out HPO.out HPP.out (by omega) hH1 hHN (by omega) (by omega) (by rw [HPL.out]; omega) hT
        rw [htl, hPQl, hlS, hRS] at H
        exact H⟩
      have HRW : Aside0 (∀ (W : World) (A1 A2 : Option Addr) (d1 d2 : Nat), (Kd.slice 3 (Kd.int .i64)).C W A1 tl T → tl ≤ d1 → (Kd.slice 3 (Kd.int .i64)).C W A2 tl T → tl ≤ d2 → Calls Tryd.prog 34 #[.slice A1 tl d1, .slice A2 tl d2] W fun e w' => e = .returned (.bool true) ∧ Aside0 (Below W.heap.size W w')) := ⟨fun W A1 A2 d1 d2 h1 k1 h2 k2 => by
        subst htl
        exact (earshotlaw13_rows.calls 4000 A1 d1 T A2 d2 T true W h1 k1 h2 k2 (rows_f T (by omega) hTr)).mono fun e w' ⟨a, b⟩ => ⟨a, ⟨b.below⟩⟩⟩
      have hgs0' : wb.heap.size ≤ gs := HSr.out.2.1
      have hgu0' : w7.heap.size ≤ gu := HUr.out.2.1
      have hwb7 := HB7w.out.size
      have hgur := blk_lt HUr.out.1
      have hgsr := blk_lt HSr.out.1
      have hgs7 : gs < w7.heap.size := HGS7.out
      have HD1 : Aside0 (gu ≠ gs) := ⟨by omega⟩
      have HD6 : Aside0 (gs ≠ gu) := ⟨by omega⟩
      have HD2 : Aside0 (some gu ≠ v2.ownBlock) := ⟨fun e => by have := HV27.out gu e.symm; omega⟩
      have HD3 : Aside0 (∀ k, v4.ownBlock = some k → k ≠ gs ∧ some k ≠ v2.ownBlock) := ⟨fun k hk => ⟨by have := HV10.out k hk; omega, fun e => by have := HV10.out k hk; have := HV27.out k e.symm; omega⟩⟩
      have HD7 : Aside0 (some gs ≠ v4.ownBlock) := ⟨fun e => by have := HV10.out gs e.symm; omega⟩
      have HD4 : Aside0 (∀ W1, Keeps wr W1 gs v2.ownBlock → Below wb.heap.size wb W1 ∧ GlobA W1 ∧ (Kd.int .i64).C W1 AQ (K - kk) Q ∧ w7.heap.size ≤ W1.heap.size) := ⟨fun W1 hk => by
        have hb : Below wb.heap.size wb W1 := HBr.out.trans (hk.toBelow HBr.out.size hgs0' (fun k e => (HSr.out.ne k e).2.1))
        exact ⟨hb, HGW.out.below hb, Kd.C_below HCQ.out hb, by have := hk.size; omega⟩⟩
      have HD5 : Aside0 (∀ va : Value, (∀ k, va.ownBlock = some k → some k = v2.ownBlock ∨ wr.heap.size ≤ k) → ∀ k, va.ownBlock = some k → k ≠ gu ∧ some k ≠ v4.ownBlock) := ⟨fun va hv k hk => by
        rcases hv k hk with h | h
        · have := HV27.out k h.symm
          exact ⟨by omega, fun e => by have := HV10.out k e.symm; omega⟩
        · exact ⟨by omega, fun e => by have := (HUr.out.ne k e.symm).2.2; omega⟩⟩
      have HD8 : Aside0 (∀ (W1 W2 : World) (va : Value) (A1 : Option Addr) (d1 : Nat), R2 W1 wr.heap.size (fun q => some q ≠ va.ownBlock) (.slice A1 tl d1) T → Keeps W1 W2 gu v4.ownBlock → (Kd.slice 3 (Kd.int .i64)).C W2 A1 tl T) := ⟨fun W1 W2 va A1 d1 hr hk => by
        have h1 := Kd.R_mono (Kd.R_bound hr) (ok' := fun q => wr.heap.size ≤ q) (fun q hq => hq.2.1)
        have h2 := hk.R h1 (fun q hq => ⟨by omega, fun e => by have := (HUr.out.ne q e.symm).2.2; omega⟩)
        have h3 := (Kd.R_reads' h2).2.2
        rwa [htl] at h3⟩
      have HD9 : Aside0 (∀ (W2 : World) (b : Nat) (vb : Value) (A1 : Option Addr) (d1 : Nat), R2 W2 b (fun q => some q ≠ vb.ownBlock) (.slice A1 tl d1) T → (Kd.slice 3 (Kd.int .i64)).C W2 A1 tl T) := ⟨fun W2 b vb A1 d1 hr => by
        have h3 := (Kd.R_reads' hr).2.2
        rwa [htl] at h3⟩
      have HD0 : Aside0 (∀ W1 W2, Below wb.heap.size wb W1 → Keeps W1 W2 gu v4.ownBlock → Below wb.heap.size wb W2) := ⟨fun W1 W2 hb hk => hb.trans (hk.toBelow hb.size (by omega) (fun k e => by have := (HUr.out.ne k e).2.1; omega))⟩
      have HGr := Aside0.mk (HGW.out.below HBr.out)
      have HCQr := Aside0.mk (Kd.C_below HCQ.out HBr.out)
      have HBS7 : Aside0 (Below w.heap.size w wb) := ⟨HBw0.out⟩
      clear hT htl hlS hRS hPQl htl2 hTr hgs0' hgu0' hwb7 hgur hgsr hgs7
      by_cases hcs : cS = kk
      · have hAQ2 : AQ = AS := by rw [← hAQ, if_pos hcs]
        subst hAQ2
        have ST0 : True := trivial
        go_wp2_with (first
          | (go_at_call 31; clear ST0; refine (HPG.out gs wb.heap.size _ v2 wr HGr.out (Nat.le_refl _) HBr.out.size HCQr.out HSr.out).mono ?_; rintro e_ W1 ⟨B1, d1, va, rfl, hd1, HSa, HRa, HKa, hva⟩; have HUa := Aside0.mk (HUr.out.keep HKa.out HD1.out HD2.out HD3.out); obtain ⟨hk1, hk2, hk3, hk4⟩ := HD4.out W1 HKa.out; have HBa := Aside0.mk hk1; have HGa := Aside0.mk hk2; have HCa := Aside0.mk hk3; clear hk1 hk2 hk3; have ST1 : True := trivial)
          | (go_at_call 31; clear ST1; refine (HPG.out gu w7.heap.size _ v4 W1 HGa.out HB7w.out.size hk4 HCa.out HUa.out).mono ?_; rintro e_ W2 ⟨B2, d2, vb, rfl, hd2, HUb, HRb, HKb, hvb⟩; have HSb := Aside0.mk (HSa.out.keep HKb.out HD6.out HD7.out (HD5.out va hva.out)); have HCA := Aside0.mk (HD8.out W1 W2 va B1 d1 HRa.out HKb.out); have HCB := Aside0.mk (HD9.out W2 _ vb B2 d2 HRb.out); have HBb := Aside0.mk (HD0.out W1 W2 HBa.out HKb.out); have ST2 : True := trivial)
          | (go_at_call 34; clear ST2; (with_reducible refine (HRW.out W2 B1 B2 d1 d2 HCA.out hd1 HCB.out hd2).mono ?_); rintro e_ W3 ⟨rfl, hs⟩; have HSc := Aside0.mk (HSb.out.below hs.out).1; have HUc := Aside0.mk (HUb.out.below hs.out).1; have HBc := Aside0.mk (below_step HBb.out hs.out); clear hs; have ST3 : True := trivial)
          | (go_at_call 33; clear ST3; refine (count_go gs _ _ _ _ _ _ _ _ _ HSc.out).mono ?_; rintro e_ W4 ⟨rfl, hs⟩; have HUd := Aside0.mk (blk_below HUc.out hs); have HBd := Aside0.mk (below_step HBc.out hs); clear hs; have ST4 : True := trivial)
          | (go_at_call 33; clear ST4; refine (count_go gu _ _ _ _ _ _ _ _ _ HUd.out).mono ?_; rintro e_ W5 ⟨rfl, hs⟩; have HBe := Aside0.mk (below_step HBd.out hs); clear hs))
        go_ret
        exact ⟨rfl, below_step HBS7.out HBe.out⟩
      · have hAQ2 : AQ = Option.map (fun x => x.add kk) AS := by rw [← hAQ, if_neg hcs]
        clear hAQ
        subst hAQ2
        have ST0 : True := trivial
        go_wp2_with (first
          | (go_at_call 31; clear ST0; refine (HPG.out gs wb.heap.size _ v2 wr HGr.out (Nat.le_refl _) HBr.out.size HCQr.out HSr.out).mono ?_; rintro e_ W1 ⟨B1, d1, va, rfl, hd1, HSa, HRa, HKa, hva⟩; have HUa := Aside0.mk (HUr.out.keep HKa.out HD1.out HD2.out HD3.out); obtain ⟨hk1, hk2, hk3, hk4⟩ := HD4.out W1 HKa.out; have HBa := Aside0.mk hk1; have HGa := Aside0.mk hk2; have HCa := Aside0.mk hk3; clear hk1 hk2 hk3; have ST1 : True := trivial)
          | (go_at_call 31; clear ST1; refine (HPG.out gu w7.heap.size _ v4 W1 HGa.out HB7w.out.size hk4 HCa.out HUa.out).mono ?_; rintro e_ W2 ⟨B2, d2, vb, rfl, hd2, HUb, HRb, HKb, hvb⟩; have HSb := Aside0.mk (HSa.out.keep HKb.out HD6.out HD7.out (HD5.out va hva.out)); have HCA := Aside0.mk (HD8.out W1 W2 va B1 d1 HRa.out HKb.out); have HCB := Aside0.mk (HD9.out W2 _ vb B2 d2 HRb.out); have HBb := Aside0.mk (HD0.out W1 W2 HBa.out HKb.out); have ST2 : True := trivial)
          | (go_at_call 34; clear ST2; (with_reducible refine (HRW.out W2 B1 B2 d1 d2 HCA.out hd1 HCB.out hd2).mono ?_); rintro e_ W3 ⟨rfl, hs⟩; have HSc := Aside0.mk (HSb.out.below hs.out).1; have HUc := Aside0.mk (HUb.out.below hs.out).1; have HBc := Aside0.mk (below_step HBb.out hs.out); clear hs; have ST3 : True := trivial)
          | (go_at_call 33; clear ST3; refine (count_go gs _ _ _ _ _ _ _ _ _ HSc.out).mono ?_; rintro e_ W4 ⟨rfl, hs⟩; have HUd := Aside0.mk (blk_below HUc.out hs); have HBd := Aside0.mk (below_step HBc.out hs); clear hs; have ST4 : True := trivial)
          | (go_at_call 33; clear ST4; refine (count_go gu _ _ _ _ _ _ _ _ _ HUd.out).mono ?_; rintro e_ W5 ⟨rfl, hs⟩; have HBe := Aside0.mk (below_step HBd.out hs); clear hs))
        go_ret
        exact ⟨rfl, below_step HBS7.out HBe.out⟩
theorem earshotlaw13_FrontMoves.calls (a0_0 a0_1 a0_2 : Int) (a0_3 a0_4 : Bool) (A1 : Option Addr) (c1 : Nat) (l1 : List Int) (a2 : Int) (r : Bool) (w : World) (hG : GlobA w) (hr1 : Kd.C (Kd.int .i64) w A1 l1.length l1) (hc1 : l1.length ≤ c1) (h : earshotlaw13_FrontMoves.f a0_0 a0_1 a0_2 a0_3 a0_4 l1 a2 = some r) :
    Calls Tryd.prog 11 #[.agg #[.int .i64 a0_0, .int .i64 a0_1, .int .i64 a0_2, .bool a0_3, .bool a0_4], .slice A1 l1.length c1, .int .i64 a2] w fun e w' => e = .returned (.bool r) ∧ Below w.heap.size w w' := by
  unfold earshotlaw13_FrontMoves.f at h
  split at h
  case isFalse => cases h
  rename_i hz
  obtain rfl := Option.some.inj h
  simp only [Bool.and_eq_true, decide_eq_true_eq] at hz
  exact moves_go A1 l1.length c1 _ _ _ _ _ _ l1 w hG rfl hr1 hc1 hz.1.1

/-- THE ONE PURE STATEMENT of earshotlaw13_FrontMoves: yours. -/
def earshotlaw13_FrontMoves.Pure : Prop := ∀ (a0_0 : Int) (a0_1 : Int) (a0_2 : Int) (a0_3 : Bool) (a0_4 : Bool) (l1 : List Int) (a2 : Int), (Lit.int .i64 a0_0).wf = true → (Lit.int .i64 a0_1).wf = true → (Lit.int .i64 a0_2).wf = true → l1.length ≤ maxLen → l1.length * 8 ≤ 140737488351232 → (∀ x ∈ l1, (Lit.int .i64 x).wf = true) → (Lit.int .i64 a2).wf = true → earshotlaw13_FrontMoves.f a0_0 a0_1 a0_2 a0_3 a0_4 l1 a2 = some true
theorem earshotlaw13_FrontMoves.walk (P : earshotlaw13_FrontMoves.Pure) (a0_0 : Int) (a0_1 : Int) (a0_2 : Int) (a0_3 : Bool) (a0_4 : Bool) (a1 : Option Addr) (len1 cap1 : Nat) (z1 : List Int) (a2 : Int) (w : World) (w0_0 : (Lit.int .i64 a0_0).wf = true) (w0_1 : (Lit.int .i64 a0_1).wf = true) (w0_2 : (Lit.int .i64 a0_2).wf = true) (w1 : (a1 = none ∧ len1 = 0 ∧ cap1 = 0 ∧ z1 = []) ∨ ∃ x, a1 = some x ∧ len1 ≤ cap1 ∧ cap1 ≤ maxLen ∧ z1.length = cap1 ∧ (∀ i, i < z1.length → w.cell? (x.add i) = some (.int .i64 (z1.getD i 0))) ∧ ∀ n ∈ z1, (Lit.int .i64 n).wf = true) (y1 : len1 * 8 ≤ 140737488351232) (w2 : (Lit.int .i64 a2).wf = true) (hG : GlobA w) :
    Calls Tryd.prog 11 #[.agg #[.int .i64 a0_0, .int .i64 a0_1, .int .i64 a0_2, .bool a0_3, .bool a0_4], .slice a1 len1 cap1, .int .i64 a2] w fun e w' => e = .returned (.bool true) ∧ Below w.heap.size w w' := by
  obtain ⟨l1, rfl, hr1, hm1, hw1, hc1⟩ := ReadsInt.ofRowC w1
  have h := P a0_0 a0_1 a0_2 a0_3 a0_4 l1 a2 w0_0 w0_1 w0_2 hm1 y1 hw1 w2
  refine (earshotlaw13_FrontMoves.calls a0_0 a0_1 a0_2 a0_3 a0_4 _ _ l1 a2 true w hG (Kd.C_of_reads (d := (0 : Int)) (h1 := fun _ => rfl) hr1) hc1 h).mono ?_
  rintro e w' ⟨rfl, hd⟩
  exact ⟨rfl, hd⟩

end Go.Proofs.YtmhacdnnnebpdaaDoor.PFrontMoves
