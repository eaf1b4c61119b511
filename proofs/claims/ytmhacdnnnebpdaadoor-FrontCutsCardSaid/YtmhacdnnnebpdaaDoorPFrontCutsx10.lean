-- Written by a program of this work (wip/tools) for this claim; Lean checks it.
import Derived.Test.YtmhacdnnnebpdaaDoorPFrontCutsx0
import Derived.Test.YtmhacdnnnebpdaaDoorPFrontCutsx1
import Derived.Test.YtmhacdnnnebpdaaDoorPFrontCutsx2
import Derived.Test.YtmhacdnnnebpdaaDoorPFrontCutsx4
import Derived.Test.YtmhacdnnnebpdaaDoorPFrontCutsx5
import Derived.Test.YtmhacdnnnebpdaaDoorPFrontCutsx6
import Derived.Test.YtmhacdnnnebpdaaDoorPFrontCutsx7
import Derived.Test.YtmhacdnnnebpdaaDoorPFrontCutsx8
import Derived.Test.YtmhacdnnnebpdaaDoorPFrontCutsx9
namespace Go.Proofs.YtmhacdnnnebpdaaDoor.PFrontCuts
open Go.RowKit Go.Proofs.YtmhacdnnnebpdaaDoorW.PrintWords Go.Proofs.YtmhacdnnnebpdaaDoorW.PrintLast Go.Proofs.YtmhacdnnnebpdaaDoorW.PrintMore
attribute [local go_sem] max2_int min2_int max_two min_two max_three min_three max_four min_four   -- for this text's walks alone
set_option linter.unusedVariables false
set_option linter.unusedSimpArgs false

/-! ### earshotlaw13_FrontCuts: function 10 -/
-- PURE intro _ _ _ _ _ l1 q _ _ _ _ h8 _ hq; unfold earshotlaw13_FrontCuts.f; rw [if_pos]; simp only [Bool.and_eq_true, decide_eq_true_eq]; exact ⟨⟨by omega, (wf_i64 hq).1⟩, (wf_i64 hq).2⟩

/-- A call's result is a row that reads as xs; the world is as it was, but for what is new. -/
def CRes (w0 W : World) (h : Nat) (xs : List Int) (e : Ending) (w' : World) : Prop :=
  ∃ A c, e = .returned (.slice A h c) ∧ h ≤ c ∧ Aside0 ((Kd.int .i64).C w' A h xs) ∧ Aside0 (Below w0.heap.size w0 w') ∧ Aside0 (Below W.heap.size W w')
theorem cres_of {w0 W w' : World} {h : Nat} {xs : List Int} {v : Value} {t b : Nat} {ok : Nat → Prop} (hB : Below w0.heap.size w0 W) (hR : (Kd.int .i64).R t w' b ok v xs) (hl : xs.length = h) (hb : Below W.heap.size W w') : CRes w0 W h xs (.returned v) w' := by
  subst hl
  obtain ⟨A, c, rfl, h1, h2⟩ := Kd.R_reads hR
  exact ⟨A, c, rfl, h1, ⟨h2⟩, ⟨below_step hB hb⟩, ⟨hb⟩⟩
theorem same_go (l : List Int) (hl : l.length ≤ 100000000) (d : Nat) : ∀ (k i : Nat), i ≤ l.length → l.length - i = d → d < k → earshotref04_Same.l0 k l l (i : Int) = some true := by
  induction d with
  | zero =>
    intro k i h0 hd hk
    obtain ⟨k, rfl⟩ : ∃ m, k = m + 1 := ⟨k - 1, by omega⟩
    simp only [earshotref04_Same.l0]
    rw [if_neg (by omega)]
  | succ d ih =>
    intro k i h0 hd hk
    obtain ⟨k, rfl⟩ : ∃ m, k = m + 1 := ⟨k - 1, by omega⟩
    simp only [earshotref04_Same.l0]
    have hw : wrap64 ((i : Int) + 1) = ((i + 1 : Nat) : Int) := by unfold wrap64; omega
    rw [if_pos (by omega), if_pos (by omega), if_pos (by omega), if_pos trivial, hw]
    exact ih k (i + 1) (by omega) (by omega) (by omega)
theorem same_f (l : List Int) (hl : l.length ≤ 100000000) : earshotref04_Same.f (l.length + 1) l l = some true := by
  unfold earshotref04_Same.f
  rw [if_pos rfl]
  exact same_go l hl l.length _ 0 (by omega) (by omega) (by omega)
/-- Two rows that read the same. -/
theorem same_c {w0 : World} (A1 : Option Addr) (h c1 : Nat) (A2 : Option Addr) (c2 : Nat) (l1 l2 : List Int) (W : World) (hB : Below w0.heap.size w0 W) (hl : l1.length = h) (he : l1 = l2) (hC1 : (Kd.int .i64).C W A1 h l1) (hC2 : (Kd.int .i64).C W A2 h l2) (h1 : h ≤ c1) (h2 : h ≤ c2) (hh : h ≤ 1000000) :
    Calls Tryd.prog 16 #[.slice A1 h c1, .slice A2 h c2] W fun e w' => e = .returned (.bool true) ∧ Aside0 (Below w0.heap.size w0 w') ∧ Aside0 (Below W.heap.size W w') := by
  subst he
  subst hl
  exact (earshotref04_Same.calls _ A1 c1 l1 A2 c2 l1 true W hC1 h1 hC2 h2 (same_f l1 (by omega))).mono fun e w' ⟨a, ⟨n, b⟩⟩ => by
    subst b
    exact ⟨a, ⟨pw_below_drewN hB n⟩, ⟨pw_below_drewN (Below.refl _ _) n⟩⟩
theorem zeros_c (X : World) (g n : Nat) (hg : g = X.heap.size) (hn : n ≤ 1000000) : (Kd.int .i64).C (X.alloc (.cells (madeCells #[.int .i64 0] n) 3)) (some ⟨g, 0, none⟩) n (List.replicate n 0) := by
  subst hg
  have h := own_made X X.heap.size 3 .i64 n (Nat.le_refl _) (by omega)
  have hR := Kd.R_of_own (enc := Value.int .i64) (h1 := fun _ => rfl) (ok := fun _ => True) (xs := List.replicate n 0) (by rw [List.length_replicate]; exact h) (fun _ _ => trivial)
  obtain ⟨A, c, he, _, h2⟩ := Kd.R_reads hR
  rw [List.length_replicate] at he h2
  injection he with e1 e2 e3
  rw [e1]
  exact h2
/-- A callee that draws only, in a region that is walked once, in a world that has drawn before. -/
theorem quiet_add {P : Program} {f : FuncId} {args : Array Value} {W : World} {K x : Nat} {v : Value} (h : Calls P f args (W.drewN (K + x)) fun e w' => e = .returned v ∧ Drawn0 (W.drewN (K + x)) w') :
    Calls P f args (W.drewN (K + x)) fun e w'' => e = .returned v ∧ ∃ n, w'' = W.drewN (K + n) :=
  h.mono fun _ _ ⟨he, ⟨m, hm⟩⟩ => ⟨he, x + m, by rw [hm, World.drewN_drewN, Nat.add_assoc]⟩
/-- .. likewise, in a world that is named by one count. -/
theorem quiet_d {P : Program} {f : FuncId} {args : Array Value} {W : World} {x : Nat} {v : Value} (h : Calls P f args (W.drewN x) fun e w' => e = .returned v ∧ Drawn0 (W.drewN x) w') :
    Calls P f args (W.drewN x) fun e w'' => e = .returned v ∧ ∃ n, w'' = W.drewN n :=
  h.mono fun _ _ ⟨he, ⟨m, hm⟩⟩ => ⟨he, x + m, by rw [hm, World.drewN_drewN]⟩

/-! ### Sound cut in parts tells the frames of the whole -/
def cutA (s h b c p : Int) (r : List Int) : List (List Int) × List Int := cutN s h b c p (r.length + 1) r
theorem cutA_yes {s h b c p : Int} (hs : 1 ≤ s.toNat) (hh : 1 ≤ h.toNat) (r : List Int) (hr : s.toNat ≤ r.length) :
    cutA s h b c p r = (frameF s h b c p (r.take s.toNat) :: (cutA s h b c p (r.drop h.toNat)).1, (cutA s h b c p (r.drop h.toNat)).2) := by
  unfold cutA
  rw [cutN_yes _ _ _ _ _ _ _ hr, cutN_more s h b c p hs hh ((r.drop h.toNat).length + 1) r.length (r.drop h.toNat) (by omega) (by rw [List.length_drop]; omega)]
theorem cutA_no {s h b c p : Int} (r : List Int) (hr : r.length < s.toNat) : cutA s h b c p r = ([], r) := cutN_no _ _ _ _ _ _ _ hr
theorem cutA_app {s h b c p : Int} (hs : 1 ≤ s.toNat) (hh : 1 ≤ h.toNat) (hhs : h.toNat ≤ s.toNat) (ys : List Int) : ∀ (n : Nat) (r : List Int), r.length ≤ n →
    cutA s h b c p (r ++ ys) = ((cutA s h b c p r).1 ++ (cutA s h b c p ((cutA s h b c p r).2 ++ ys)).1, (cutA s h b c p ((cutA s h b c p r).2 ++ ys)).2)
  | n, r, hn => by
    by_cases hr : r.length < s.toNat
    · rw [cutA_no r hr]; rfl
    · have hr2 : s.toNat ≤ r.length := by omega
      match n, hn with
      | 0, hn => omega
      | n + 1, hn =>
        have ih := cutA_app (s := s) (h := h) (b := b) (c := c) (p := p) hs hh hhs ys n (r.drop h.toNat) (by rw [List.length_drop]; omega)
        rw [cutA_yes hs hh r hr2, cutA_yes hs hh (r ++ ys) (by rw [List.length_append]; omega), List.take_append_of_le_length hr2, List.drop_append_of_le_length (by omega), ih]
        rfl
theorem cutA_rest {s h b c p : Int} (hs : 1 ≤ s.toNat) (hh : 1 ≤ h.toNat) : ∀ (n : Nat) (r : List Int), r.length ≤ n → (cutA s h b c p r).2.length < s.toNat
  | n, r, hn => by
    by_cases hr : r.length < s.toNat
    · rw [cutA_no r hr]; exact hr
    · match n, hn with
      | 0, hn => omega
      | n + 1, hn =>
        rw [cutA_yes hs hh r (by omega)]
        exact cutA_rest hs hh n (r.drop h.toNat) (by rw [List.length_drop]; omega)
def framesI (s h n : Int) : Int := if n < s then 0 else (n - s) / h + 1
def neededI (s h n : Int) : Int := n - framesI s h n * h
theorem framesI_step {s h n : Int} (hh : 1 ≤ h) (hhs : h ≤ s) (hn : s ≤ n) : framesI s h n = framesI s h (n - h) + 1 := by
  unfold framesI
  rw [if_neg (by omega)]
  by_cases c : n - h < s
  · rw [if_pos c, Int.ediv_eq_zero_of_lt (by omega) (by omega)]
  · rw [if_neg c]
    have e : n - s = (n - h - s) + 1 * h := by omega
    rw [e, Int.add_mul_ediv_right _ _ (by omega)]
theorem framesI_nn {s h n : Int} (hh : 1 ≤ h) : 0 ≤ framesI s h n := by
  unfold framesI
  split
  · omega
  · have := Int.ediv_nonneg (a := n - s) (b := h) (by omega) (by omega)
    omega
theorem framesI_mono1 {s h n : Int} (hh : 1 ≤ h) (hs : 1 ≤ s) : framesI s h (n + 1) ≤ framesI s h n + 1 ∧ framesI s h n ≤ framesI s h (n + 1) := by
  unfold framesI
  by_cases c : n + 1 < s
  · rw [if_pos c, if_pos (by omega)]; omega
  · rw [if_neg c]
    by_cases d : n < s
    · rw [if_pos d, show n + 1 - s = 0 by omega, Int.zero_ediv]; omega
    · rw [if_neg d]
      have h1 : (n + 1 - s) / h ≤ (n - s + 1 * h) / h := Int.ediv_le_ediv (by omega) (by omega)
      rw [Int.add_mul_ediv_right _ _ (by omega)] at h1
      have h2 : (n - s) / h ≤ (n + 1 - s) / h := Int.ediv_le_ediv (by omega) (by omega)
      omega
theorem framesI_mul {s h n : Int} (hs : 0 ≤ s) (hh : 1 ≤ h) (hhs : h ≤ s) (h0 : 0 ≤ n) : 0 ≤ framesI s h n * h ∧ framesI s h n * h ≤ n := by
  unfold framesI
  split
  · omega
  · rename_i hn
    have a : 0 ≤ (n - s) / h := Int.ediv_nonneg (by omega) (by omega)
    have b : (n - s) / h * h ≤ n - s := Int.ediv_mul_le _ (by omega)
    have e : ((n - s) / h + 1) * h = (n - s) / h * h + h := by rw [Int.add_mul, Int.one_mul]
    have m : 0 ≤ (n - s) / h * h := Int.mul_nonneg a (by omega)
    omega
/-- How many frames, which, and what is left. -/
theorem cutA_what {s h b c p : Int} (hh : 1 ≤ h) (hhs : h ≤ s) : ∀ (n : Nat) (r : List Int), r.length ≤ n →
    ((cutA s h b c p r).1.length : Int) = framesI s h (r.length : Int) ∧ (cutA s h b c p r).2 = r.drop ((cutA s h b c p r).1.length * h.toNat) ∧
      ∀ i, i < (cutA s h b c p r).1.length → (cutA s h b c p r).1.getD i [] = frameF s h b c p ((r.drop (i * h.toNat)).take s.toNat)
  | n, r, hn => by
    by_cases hr : r.length < s.toNat
    · rw [cutA_no r hr]
      refine ⟨?_, by simp, fun i hi => by simp at hi⟩
      unfold framesI
      rw [if_pos (by omega)]; rfl
    · match n, hn with
      | 0, hn => omega
      | n + 1, hn =>
        obtain ⟨i1, i2, i3⟩ := cutA_what (s := s) (h := h) (b := b) (c := c) (p := p) hh hhs n (r.drop h.toNat) (by rw [List.length_drop]; omega)
        rw [cutA_yes (by omega) (by omega) r (by omega)]
        generalize cutA s h b c p (r.drop h.toNat) = q at i1 i2 i3
        have hl : ((r.drop h.toNat).length : Int) = (r.length : Int) - h := by rw [List.length_drop]; omega
        rw [hl] at i1
        refine ⟨?_, ?_, ?_⟩
        · rw [framesI_step hh hhs (show s ≤ (r.length : Int) by omega), ← i1, List.length_cons]; omega
        · show q.2 = _
          rw [i2, List.drop_drop, List.length_cons, Nat.add_mul, Nat.one_mul, Nat.add_comm]
        · intro i hi
          cases i with
          | zero => rw [Nat.zero_mul, List.drop_zero]; rfl
          | succ i =>
            rw [List.length_cons] at hi
            have := i3 i (by omega)
            rw [List.drop_drop] at this
            rw [List.getD_cons_succ, this, Nat.add_mul, Nat.one_mul, Nat.add_comm]
theorem flatL_app (p : Int) : ∀ (last : Int) (xs ys : List Int), flatL p last (xs ++ ys) = flatL p last xs ++ flatL p (lastL last xs) ys
  | _, [], _ => rfl
  | last, x :: xs, ys => by
    show preS p last x :: flatL p x (xs ++ ys) = _
    rw [flatL_app p x xs ys]; rfl
theorem lastL_app : ∀ (last : Int) (xs ys : List Int), lastL last (xs ++ ys) = lastL (lastL last xs) ys
  | _, [], _ => rfl
  | _, x :: xs, ys => lastL_app x xs ys
/-- The frames of sound from the start, and the rest. -/
def frsL (s h b c p : Int) (l : List Int) : List (List Int) := (cutA s h b c p (flatL p 0 l)).1
def rssL (s h b c p : Int) (l : List Int) : List Int := (cutA s h b c p (flatL p 0 l)).2
theorem cut_step {s h b c p : Int} (hs : 1 ≤ s.toNat) (hh : 1 ≤ h.toNat) (hhs : h.toNat ≤ s.toNat) (L xs : List Int) :
    frsL s h b c p (L ++ xs) = frsL s h b c p L ++ (cutA s h b c p (rssL s h b c p L ++ flatL p (lastL 0 L) xs)).1 ∧ rssL s h b c p (L ++ xs) = (cutA s h b c p (rssL s h b c p L ++ flatL p (lastL 0 L) xs)).2 := by
  unfold frsL rssL
  rw [flatL_app, cutA_app hs hh hhs _ _ _ (Nat.le_refl _)]
  exact ⟨rfl, rfl⟩
theorem frsL_len {s h b c p : Int} (hh : 1 ≤ h) (hhs : h ≤ s) (l : List Int) : ((frsL s h b c p l).length : Int) = framesI s h (l.length : Int) := by
  have := (cutA_what (s := s) (h := h) (b := b) (c := c) (p := p) hh hhs _ (flatL p 0 l) (Nat.le_refl _)).1
  rw [flatL_length] at this
  exact this
theorem rssL_eq {s h b c p : Int} (hh : 1 ≤ h) (hhs : h ≤ s) (l : List Int) : rssL s h b c p l = (flatL p 0 l).drop ((framesI s h (l.length : Int)).toNat * h.toNat) := by
  have h1 := (cutA_what (s := s) (h := h) (b := b) (c := c) (p := p) hh hhs _ (flatL p 0 l) (Nat.le_refl _)).2.1
  have h2 := frsL_len (s := s) (h := h) (b := b) (c := c) (p := p) hh hhs l
  unfold rssL
  rw [h1, show (cutA s h b c p (flatL p 0 l)).1.length = (framesI s h (l.length : Int)).toNat by unfold frsL at h2; omega]
theorem frsL_at {s h b c p : Int} (hh : 1 ≤ h) (hhs : h ≤ s) (l : List Int) (i : Nat) (hi : i < (frsL s h b c p l).length) : (frsL s h b c p l).getD i [] = frameF s h b c p (((flatL p 0 l).drop (i * h.toNat)).take s.toNat) :=
  (cutA_what (s := s) (h := h) (b := b) (c := c) (p := p) hh hhs _ (flatL p 0 l) (Nat.le_refl _)).2.2 i hi
theorem rssL_len {s h b c p : Int} (hs : 1 ≤ s.toNat) (hh : 1 ≤ h.toNat) (l : List Int) : (rssL s h b c p l).length < s.toNat := cutA_rest hs hh _ _ (Nat.le_refl _)
theorem one_more {s h b c p : Int} (hh : 1 ≤ h) (hhs : h ≤ s) (L : List Int) (x : Int) (T : List (List Int)) (hT : frsL s h b c p (L ++ [x]) = frsL s h b c p L ++ T) : T.length ≤ 1 := by
  have h1 := frsL_len (s := s) (h := h) (b := b) (c := c) (p := p) hh hhs (L ++ [x])
  have h2 := frsL_len (s := s) (h := h) (b := b) (c := c) (p := p) hh hhs L
  have h3 := framesI_mono1 (s := s) (h := h) (n := (L.length : Int)) hh (by omega)
  rw [hT, List.length_append, List.length_append] at h1
  have e : (((L.length + [x].length : Nat)) : Int) = (L.length : Int) + 1 := by simp
  rw [e] at h1
  omega

set_option maxHeartbeats 16000000 in
set_option maxRecDepth 100000 in
theorem reset_go (g : Nat) (s h b c p cnt last : Int) (v : Value) (w : World) (hb : w.heap[g]? = some (.cells (strC s h b c p cnt last v) 86 (0, 0))) :
    Calls Tryd.prog 35 #[.pointer (some ⟨g, 0, none⟩)] w fun e w' => e = .returned (.tuple #[]) ∧ w'.heap[g]? = some (.cells (strC s h b c p 0 0 (.slice none 0 0)) 86 (0, 0)) ∧ Keeps w w' g none := by
  have hu49 := Tryd.underlying49
  have hu86 := Tryd.underlying86
  have hu84 := Tryd.underlying84
  have hu39 := Tryd.underlying39
  have hgw : g < w.heap.size := blk_lt hb
  have BK : Aside0 (w.heap[g]? = some (.cells #[.int .i64 s, .int .i64 h, .int .i64 b, .int .i64 c, .int .i64 p, .int .i64 cnt, .int .i64 last, v] 86 (0, 0))) := ⟨hb⟩
  have q5 := blk_cell BK.out 5
  have q6 := blk_cell BK.out 6
  have q7 := blk_cell BK.out 7
  have f5 := blk_frozen BK.out 5
  have f6 := blk_frozen BK.out 6
  have f7 := blk_frozen BK.out 7
  clear hb
  go_enter Tryd.func35, Tryd.ntmps35
  go_wp2
  go_end0
  refine ⟨rfl, ?_, ?_⟩
  · exact (blk_set (blk_set (blk_set BK.out 5 _) 6 _) 7 _).trans rfl
  · exact (((Keeps.refl w g none).set 5 _).set 6 _).set 7 _

/-! ### Push, told by all sound so far -/
theorem any_app {l m : List Int} (h1 : l.any badPU = false) (h2 : m.any badPU = false) : (l ++ m).any badPU = false := by rw [List.any_append, h1, h2]; rfl
theorem last_in {l : List Int} (h : l.any badPU = false) : -32768 ≤ lastL 0 l ∧ lastL 0 l ≤ 32767 := lastL_in (by omega) (push_ok h)
theorem push_st (A : Option Addr) (c n g b0 N Hp : Nat) (b cf p : Int) (L xs : List Int) (T : List (List Int)) (v : Value) (w : World) (hG : GlobA w) (hb0 : 1 ≤ b0) (hbw : b0 ≤ w.heap.size)
    (hS : StrAt w g b0 (N : Int) (Hp : Int) b cf p (L.length : Int) (lastL 0 L) v (rssL (N : Int) (Hp : Int) b cf p L)) (hl : xs.length = n) (hC : (Kd.int .i64).C w A n xs) (hA : ∀ ad, A = some ad → 0 < n → ad.block ≠ g ∧ some ad.block ≠ v.ownBlock)
    (hx : xs.any badPU = false) (hLx : L.any badPU = false) (hp : 0 ≤ p ∧ p < 32768) (hN : 0 < N) (hH1 : 1 ≤ Hp) (hHN : Hp ≤ N) (hN64 : N ≤ 64) (hn : n ≤ 100000) (hLn : L.length ≤ 100000)
    (hT : frsL (N : Int) (Hp : Int) b cf p (L ++ xs) = frsL (N : Int) (Hp : Int) b cf p L ++ T) :
    Calls Tryd.prog 31 #[.pointer (some ⟨g, 0, none⟩), .slice A n c] w fun e w' => ∃ A1 c1 v', e = .returned (.tuple #[.slice A1 T.length c1, .int .i64 0]) ∧ T.length ≤ c1 ∧ Aside0 (StrAt w' g b0 (N : Int) (Hp : Int) b cf p ((L ++ xs).length : Int) (lastL 0 (L ++ xs)) v' (rssL (N : Int) (Hp : Int) b cf p (L ++ xs))) ∧ Aside0 (R2 w' w.heap.size (fun q => some q ≠ v'.ownBlock) (.slice A1 T.length c1) T) ∧ Aside0 (Keeps w w' g v.ownBlock) ∧ Aside0 (∀ k, v'.ownBlock = some k → some k = v.ownBlock ∨ w.heap.size ≤ k) := by
  have hsN : (N : Int).toNat = N := by omega
  have hhN : (Hp : Int).toNat = Hp := by omega
  obtain ⟨k1, k2⟩ := cut_step (s := (N : Int)) (h := (Hp : Int)) (b := b) (c := cf) (p := p) (by omega) (by omega) (by omega) L xs
  have hT1 : (cutA (N : Int) (Hp : Int) b cf p (rssL (N : Int) (Hp : Int) b cf p L ++ flatL p (lastL 0 L) xs)).1 = T := by
    rw [hT] at k1
    exact (List.append_cancel_left k1).symm
  have hrl := rssL_len (s := (N : Int)) (h := (Hp : Int)) (b := b) (c := cf) (p := p) (by omega) (by omega) L
  refine (push_go A c n g b0 N Hp (N : Int) (Hp : Int) b cf p (L.length : Int) (lastL 0 L) ((L ++ xs).length : Int) (lastL 0 (L ++ xs)) (rssL (N : Int) (Hp : Int) b cf p L) xs _ (rssL (N : Int) (Hp : Int) b cf p (L ++ xs)) T v w hG hb0 hbw hS hl hC hA hx (last_in hLx) hp rfl hN rfl hH1 hHN hN64 hn (by omega) (by omega) (by omega) rfl hT1 k2.symm (by rw [List.length_append]; omega) (lastL_app 0 L xs).symm).mono ?_
  rintro e w' ⟨vo, v', rfl, h1, h2, h3, h4⟩
  obtain ⟨A1, c1, hvo, hc1, _⟩ := Kd.R_reads h2
  subst hvo
  exact ⟨A1, c1, v', rfl, hc1, ⟨h1⟩, ⟨h2⟩, ⟨h3⟩, ⟨h4⟩⟩
/-- A row of rows that is not the stream's stays what it is. -/
theorem keep_R {α : Type} {d : Kd α} {e base g : Nat} {W W' : World} {v v' va : Value} {T : List α} (h : d.R e W base (fun q => q ≠ g ∧ some q ≠ v.ownBlock) va T) (hK : Keeps W W' g v.ownBlock) (hv : ∀ k, v'.ownBlock = some k → some k = v.ownBlock ∨ W.heap.size ≤ k) :
    d.R e W' base (fun q => q ≠ g ∧ some q ≠ v'.ownBlock) va T := by
  have h1 := Kd.R_mono (Kd.R_bound h) (ok' := fun q => (q ≠ g ∧ some q ≠ v.ownBlock) ∧ q < W.heap.size) (fun q hq => ⟨hq.1, hq.2.2.1⟩)
  refine Kd.R_mono (hK.R h1 (fun q hq => ⟨hq.1.1, hq.1.2⟩)) (fun q hq => ⟨hq.1.1, fun e_ => ?_⟩)
  rcases hv q e_.symm with h2 | h2
  · exact hq.1.2 h2
  · omega
theorem fresh_R {α : Type} {d : Kd α} {e base g : Nat} {W : World} {v' va : Value} {T : List α} (h : d.R e W base (fun q => some q ≠ v'.ownBlock) va T) (hg : g < base) : d.R e W base (fun q => q ≠ g ∧ some q ≠ v'.ownBlock) va T :=
  Kd.R_mono (Kd.R_bound h) (fun q hq => ⟨by omega, hq.1⟩)
theorem wide_R {α : Type} {d : Kd α} {e base g : Nat} {W W' : World} {v va : Value} {T : List α} (h : d.R e W' base (fun _ => True) va T) (hb : W.heap.size ≤ base) (hg : g < W.heap.size) (hv : ∀ k, v.ownBlock = some k → k < W.heap.size) : d.R e W' base (fun q => q ≠ g ∧ some q ≠ v.ownBlock) va T :=
  Kd.R_mono (Kd.R_bound h) (fun q hq => ⟨by omega, fun e_ => by have := hv q e_.symm; omega⟩)
/-- The state after New. -/
theorem st_new {w : World} {g b0 : Nat} {s h b c p : Int} (hs : 1 ≤ s) (H : StrAt w g b0 s h b c p 0 0 (.slice none 0 0) []) : StrAt w g b0 s h b c p (([] : List Int).length : Int) (lastL 0 []) (.slice none 0 0) (rssL s h b c p []) := by
  have e : rssL s h b c p [] = [] := by
    unfold rssL
    rw [show flatL p 0 [] = [] from rfl, cutA_no _ (by show 0 < s.toNat; omega)]
  rw [e]
  exact H

def soundL (l : List Int) : List Int := (l.take 90).map fun x => IntKind.i16.wrap x
theorem i16_in (x : Int) : -32768 ≤ IntKind.i16.wrap x ∧ IntKind.i16.wrap x ≤ 32767 := by
  have h : IntKind.i16.wrap x = (x + 32768) % 65536 - 32768 := by
    simp only [IntKind.wrap, IntKind.bits, IntKind.signed]
    first | rfl | (simp; omega) | omega
  have h1 := Int.emod_nonneg (x + 32768) (show (65536 : Int) ≠ 0 by decide)
  have h2 := Int.emod_lt_of_pos (x + 32768) (show (0 : Int) < 65536 by decide)
  omega
theorem soundL_len (l : List Int) : (soundL l).length ≤ 90 := by
  simp only [soundL, List.length_map, List.length_take]; omega
theorem soundL_ok (l : List Int) : (soundL l).any badPU = false := by
  rw [List.any_eq_false]
  intro y hy
  simp only [soundL, List.mem_map] at hy
  obtain ⟨x, _, rfl⟩ := hy
  have := i16_in x
  unfold badPU
  rw [decide_eq_true (by omega), decide_eq_true (by omega)]
  decide
theorem rsound_l0 (l : List Int) (hl : l.length ≤ 4000000000000000000) : ∀ (d n k : Nat), n + d = (soundL l).length → d + 1 ≤ k → earshotlaw13_sound.l0 k l ((soundL l).take n) (n : Int) = some (soundL l)
  | 0, n, k, hn, hk => by
    obtain ⟨k, rfl⟩ : ∃ q, k = q + 1 := ⟨k - 1, by omega⟩
    rw [List.take_of_length_le (by omega)]
    simp only [soundL, List.length_map, List.length_take] at hn
    rw [earshotlaw13_sound.l0]
    by_cases h1 : (n : Int) < (l.length : Int)
    · rw [if_pos h1, if_neg (by omega)]
    · rw [if_neg h1]
  | d + 1, n, k, hn, hk => by
    obtain ⟨k, rfl⟩ : ∃ q, k = q + 1 := ⟨k - 1, by omega⟩
    have hlt : n < (soundL l).length := by omega
    have hn2 := hlt
    simp only [soundL, List.length_map, List.length_take] at hn2
    have e1 : wrap64 ((n : Int) + 1) = ((n + 1 : Nat) : Int) := by unfold wrap64; omega
    have e2 : (soundL l).take (n + 1) = (soundL l).take n ++ [wrap64 (IntKind.i16.wrap (l.getD n 0))] := by
      rw [List.take_add_one, List.getElem?_eq_getElem hlt]
      have hw := i16_in (l.getD n 0)
      have : (soundL l)[n] = wrap64 (IntKind.i16.wrap (l.getD n 0)) := by
        rw [show wrap64 (IntKind.i16.wrap (l.getD n 0)) = IntKind.i16.wrap (l.getD n 0) by unfold wrap64; omega]
        simp only [soundL, List.getElem_map, List.getElem_take]
        rw [List.getD_eq_getElem?_getD, List.getElem?_eq_getElem (by omega)]
        rfl
      rw [this]; rfl
    rw [earshotlaw13_sound.l0, if_pos (by omega), if_pos (by omega), if_pos (by omega), if_pos (by rw [List.length_take]; omega), show rd l (n : Int) = l.getD n 0 by unfold rd; rw [Int.toNat_natCast], ← e2, e1]
    exact rsound_l0 l hl d (n + 1) k (by omega) (by omega)
theorem rsound_f (l : List Int) (hl : l.length ≤ 4000000000000000000) (k : Nat) (hk : 91 ≤ k) : earshotlaw13_sound.f k l = some (soundL l) := by
  have h := rsound_l0 l hl (soundL l).length 0 k (by omega) (by have := soundL_len l; omega)
  exact h

theorem frs_nil {s h b c p : Int} (hs : 1 ≤ s) : frsL s h b c p [] = [] := by
  unfold frsL
  rw [show flatL p 0 [] = [] from rfl, cutA_no _ (by show 0 < s.toNat; omega)]
/-- k modulo the number of places where sound may be cut. -/
theorem cut_at (q : Int) (K : Nat) (hK : K ≤ 1000) : ∃ (q1 q2 : Int) (kk : Nat), Int.tmod q ((K : Int) + 1) = q1 ∧ IntKind.i64.wrap q1 = q1 ∧ IntKind.i64.wrap (q1 + ((K : Int) + 1)) = q2 ∧ Int.tmod q2 ((K : Int) + 1) = (kk : Int) ∧ kk ≤ K := by
  have h1 := Int.natAbs_tmod q ((K : Int) + 1)
  have h2 := Nat.mod_lt q.natAbs (show 0 < ((K : Int) + 1).natAbs by omega)
  rw [← h1] at h2
  obtain ⟨q1, hq1⟩ : ∃ r, Int.tmod q ((K : Int) + 1) = r := ⟨_, rfl⟩
  rw [hq1] at h2
  have h3 := Int.tmod_nonneg ((K : Int) + 1) (show 0 ≤ q1 + ((K : Int) + 1) by omega)
  have h4 := Int.tmod_lt_of_pos (q1 + ((K : Int) + 1)) (show 0 < (K : Int) + 1 by omega)
  refine ⟨q1, q1 + ((K : Int) + 1), (Int.tmod (q1 + ((K : Int) + 1)) ((K : Int) + 1)).toNat, hq1, ?_, ?_, ?_, ?_⟩
  · rw [IntKind.wrap_i64]; omega
  · rw [IntKind.wrap_i64]; omega
  · omega
  · omega

theorem same_goK (l : List Int) (hl : l.length ≤ 100000000) (d : Nat) : ∀ (k i : Nat), i ≤ l.length → l.length - i = d → d < k → earshotref04_Same.l0 k l l (i : Int) = some true := by
  induction d with
  | zero =>
    intro k i h0 hd hk
    obtain ⟨k, rfl⟩ : ∃ m, k = m + 1 := ⟨k - 1, by omega⟩
    simp only [earshotref04_Same.l0]
    rw [if_neg (by omega)]
  | succ d ih =>
    intro k i h0 hd hk
    obtain ⟨k, rfl⟩ : ∃ m, k = m + 1 := ⟨k - 1, by omega⟩
    simp only [earshotref04_Same.l0]
    have hw : wrap64 ((i : Int) + 1) = ((i + 1 : Nat) : Int) := by unfold wrap64; omega
    rw [if_pos (by omega), if_pos (by omega), if_pos (by omega), if_pos trivial, hw]
    exact ih k (i + 1) (by omega) (by omega) (by omega)
theorem sameK (l : List Int) (hl : l.length ≤ 100000000) {k : Nat} (hk : l.length < k) : earshotref04_Same.f k l l = some true := by
  unfold earshotref04_Same.f
  rw [if_pos rfl]
  exact same_goK l hl l.length k 0 (by omega) (by omega) (by omega)

theorem frameF_le (s h b c p : Int) (ys : List Int) : (frameF s h b c p ys).length ≤ 100 := by
  by_cases hok : frameOk s h b c p ys = true
  · rw [frameF_len hok]
    simp only [frameOk, Bool.and_eq_true] at hok
    have hr := hok.1.1
    simp only [rightB, Bool.and_eq_true, decide_eq_true_eq] at hr
    obtain ⟨⟨⟨⟨⟨⟨⟨r0, r1⟩, r2⟩, r3⟩, r4⟩, r5⟩, r6⟩, r7⟩ := hr
    rcases mayB_cases r3 with h | h | h <;> omega
  · unfold frameF
    rw [if_neg hok]
    decide

theorem rows_l0 (T : List (List Int)) (hT : T.length ≤ 1000) (hR : ∀ r ∈ T, r.length ≤ 1000) : ∀ (d n k : Nat), n + d = T.length → 2000 + d ≤ k → earshotlaw13_rows.l0 k T T (n : Int) = some true
  | 0, n, k, hn, hk => by
    obtain ⟨k, rfl⟩ : ∃ q, k = q + 1 := ⟨k - 1, by omega⟩
    rw [earshotlaw13_rows.l0, if_neg (by omega)]
  | d + 1, n, k, hn, hk => by
    obtain ⟨k, rfl⟩ : ∃ q, k = q + 1 := ⟨k - 1, by omega⟩
    have e1 : wrap64 ((n : Int) + 1) = ((n + 1 : Nat) : Int) := by unfold wrap64; omega
    have e2 : rd_L1 T (n : Int) = T.getD n [] := by unfold rd_L1; rw [Int.toNat_natCast]
    have h1 : (T.getD n []).length ≤ 1000 := by
      rw [List.getD_eq_getElem?_getD, List.getElem?_eq_getElem (by omega)]
      exact hR _ (List.getElem_mem _)
    rw [earshotlaw13_rows.l0, if_pos (by omega), if_pos (by omega), if_pos (by omega), e2, sameK _ (by omega) (by omega), bsome, if_pos rfl, e1]
    exact rows_l0 T hT hR d (n + 1) k (by omega) (by omega)
theorem rows_f (T : List (List Int)) (hT : T.length ≤ 1000) (hR : ∀ r ∈ T, r.length ≤ 1000) : earshotlaw13_rows.f 4000 T T = some true := by
  unfold earshotlaw13_rows.f
  rw [if_pos rfl]
  exact rows_l0 T hT hR T.length 0 4000 (by omega) (by omega)
theorem cutA_rows {s h b c p : Int} (hs : 1 ≤ s.toNat) (hh : 1 ≤ h.toNat) : ∀ (n : Nat) (r : List Int), r.length ≤ n → ∀ f ∈ (cutA s h b c p r).1, f.length ≤ 100
  | n, r, hn => by
    by_cases hr : r.length < s.toNat
    · rw [cutA_no r hr]; intro f hf; cases hf
    · match n, hn with
      | 0, hn => omega
      | n + 1, hn =>
        rw [cutA_yes hs hh r (by omega)]
        intro f hf
        rcases List.mem_cons.1 hf with h1 | h1
        · rw [h1]; exact frameF_le _ _ _ _ _ _
        · exact cutA_rows hs hh n (r.drop h.toNat) (by rw [List.length_drop]; omega) f h1

theorem StrAt.grown {W W' : World} {g b0 : Nat} {row : Option Nat} {s h b c p cnt last : Int} {v : Value} {rest : List Int} (H : StrAt W g b0 s h b c p cnt last v rest) (hg : W.grownBy W' row) (hgr : some g ≠ row) (hv : ∀ k, v.ownBlock = some k → some k ≠ row) : StrAt W' g b0 s h b c p cnt last v rest :=
  ⟨blk_grown H.1 hg hgr, H.2.1, Kd.R_mono (Kd.R_grown (Kd.R_tight rfl H.2.2) hg (fun q hq => hv q (show v.ownBlock = some q from Eq.symm hq))) (fun _ _ => trivial)⟩
theorem rows_reads {W : World} {base n c : Nat} {ok : Nat → Prop} {A : Option Addr} {ys : List (List Int)} (h : R2 W base ok (.slice A n c) ys) : ReadsRow ((Kd.slice 3 (Kd.int .i64)).M W base (fun k => ok k ∧ some k ≠ (Value.slice A n c).ownBlock)) 1 W A n ys := by
  obtain ⟨A', c', he, hl, hr⟩ := OwnRow.reads h.2
  injection he with h1 h2 h3
  subst h1 h2
  exact hr
/-- Push on a stream in memory above wb's. -/
theorem push_b {wb : World} (A : Option Addr) (c n g N Hp : Nat) (b cf p cnt lst : Int) (L xs : List Int) (T : List (List Int)) (tl : Nat) (v : Value) (rest : List Int) (cnt2 lst2 : Int) (rest2 : List Int) (w : World) (hG : GlobA wb) (hB : Below wb.heap.size wb w)
    (hS : StrAt w g wb.heap.size (N : Int) (Hp : Int) b cf p cnt lst v rest) (e1 : (L.length : Int) = cnt) (e2 : lastL 0 L = lst) (e3 : rssL (N : Int) (Hp : Int) b cf p L = rest)
    (hl : xs.length = n) (hC : (Kd.int .i64).C w A n xs) (hA : ∀ ad, A = some ad → 0 < n → ad.block ≠ g ∧ some ad.block ≠ v.ownBlock)
    (hx : xs.any badPU = false) (hLx : L.any badPU = false) (hp : 0 ≤ p ∧ p < 32768) (hN : 0 < N) (hH1 : 1 ≤ Hp) (hHN : Hp ≤ N) (hN64 : N ≤ 64) (hn : n ≤ 100000) (hLn : L.length ≤ 100000)
    (hT : frsL (N : Int) (Hp : Int) b cf p (L ++ xs) = frsL (N : Int) (Hp : Int) b cf p L ++ T) (ht : T.length = tl) (f1 : ((L ++ xs).length : Int) = cnt2) (f2 : lastL 0 (L ++ xs) = lst2) (f3 : rssL (N : Int) (Hp : Int) b cf p (L ++ xs) = rest2) :
    Calls Tryd.prog 31 #[.pointer (some ⟨g, 0, none⟩), .slice A n c] w fun e w' => ∃ A1 c1 v', e = .returned (.tuple #[.slice A1 tl c1, .int .i64 0]) ∧ tl ≤ c1 ∧ Aside0 (StrAt w' g wb.heap.size (N : Int) (Hp : Int) b cf p cnt2 lst2 v' rest2) ∧ Aside0 (R2 w' w.heap.size (fun q => q ≠ g ∧ some q ≠ v'.ownBlock) (.slice A1 tl c1) T) ∧ Aside0 (Keeps w w' g v.ownBlock) ∧ Aside0 (∀ k, v'.ownBlock = some k → some k = v.ownBlock ∨ w.heap.size ≤ k) ∧ Aside0 (Below wb.heap.size wb w') := by
  subst e1 e2 e3 f1 f2 f3 ht
  refine (push_st A c n g wb.heap.size N Hp b cf p L xs T v w (hG.below hB) hG.1 hB.size hS hl hC hA hx hLx hp hN hH1 hHN hN64 hn hLn hT).mono ?_
  rintro e w' ⟨A1, c1, v', rfl, h1, h2, h3, h4, h5⟩
  exact ⟨A1, c1, v', rfl, h1, h2, ⟨fresh_R h3.out (blk_lt hS.1)⟩, h4, h5, ⟨hB.trans (h4.out.toBelow hB.size hS.2.1 (fun k e => (hS.ne k e).2.1))⟩⟩
theorem rows_d (T : List (List Int)) (tl : Nat) (ht : T.length = tl) (h1 : tl ≤ 1000) (h2 : ∀ r ∈ T, r.length ≤ 1000) (W : World) (A1 A2 : Option Addr) (d1 d2 : Nat) (hc1 : (Kd.slice 3 (Kd.int .i64)).C W A1 tl T) (k1 : tl ≤ d1) (hc2 : (Kd.slice 3 (Kd.int .i64)).C W A2 tl T) (k2 : tl ≤ d2) :
    Calls Tryd.prog 34 #[.slice A1 tl d1, .slice A2 tl d2] W fun e w' => e = .returned (.bool true) ∧ Aside0 (Below W.heap.size W w') := by
  subst ht
  exact (earshotlaw13_rows.calls 4000 A1 d1 T A2 d2 T true W hc1 k1 hc2 k2 (rows_f T (by omega) h2)).mono fun e w' ⟨a, b⟩ => ⟨a, ⟨b.below⟩⟩
theorem frs_small {N Hp : Nat} {b c p : Int} (hN : 1 ≤ N) (hH1 : 1 ≤ Hp) (S : List Int) : (frsL (N : Int) (Hp : Int) b c p S).length ≤ S.length + 1 ∧ ∀ r ∈ frsL (N : Int) (Hp : Int) b c p S, r.length ≤ 1000 := by
  refine ⟨?_, fun r hr => ?_⟩
  · have h4 := cutN_len (N : Int) (Hp : Int) b c p ((flatL p 0 S).length + 1) (flatL p 0 S)
    have h5 : (frsL (N : Int) (Hp : Int) b c p S).length ≤ (flatL p 0 S).length + 1 := h4
    rw [flatL_length] at h5
    exact h5
  · have := cutA_rows (s := (N : Int)) (h := (Hp : Int)) (b := b) (c := c) (p := p) (by omega) (by omega) _ _ (Nat.le_refl _) r hr
    omega
theorem far_of {W : World} {g b0 n : Nat} {s h b c p cnt last : Int} {v : Value} {rest : List Int} (H : StrAt W g b0 s h b c p cnt last v rest) {A : Option Addr} (hA : ∀ ad, A = some ad → 0 < n → ad.block < b0) : ∀ ad, A = some ad → 0 < n → ad.block ≠ g ∧ some ad.block ≠ v.ownBlock := fun ad e h => by
  have h1 := hA ad e h
  have h2 := H.2.1
  exact ⟨by omega, fun e2 => by have := (H.ne _ e2.symm).2.1; omega⟩

theorem sound_d (A : Option Addr) (n c : Nat) (l : List Int) (W : World) (hl : l.length = n) (hC : (Kd.int .i64).C W A n l) (hc : n ≤ c) (hn : n ≤ 4000000000000000000) :
    Calls Tryd.prog 28 #[.slice A n c] W fun e w' => ∃ A1 c1, e = .returned (.slice A1 (soundL l).length c1) ∧ (soundL l).length ≤ c1 ∧ Aside0 ((Kd.int .i64).R 3 w' W.heap.size (fun _ => True) (.slice A1 (soundL l).length c1) (soundL l)) ∧ Aside0 (Below W.heap.size W w') := by
  subst hl
  refine (earshotlaw13_sound.calls 100 A c l _ W hC hc (rsound_f l hn 100 (by omega))).mono ?_
  rintro e w' ⟨v, rfl, hR, hb⟩
  obtain ⟨A1, c1, hv, h1, _⟩ := Kd.R_reads hR
  subst hv
  exact ⟨A1, c1, rfl, h1, ⟨hR⟩, ⟨hb⟩⟩
def earshotlaw13_FrontCuts.f (a0_0 a0_1 a0_2 : Int) (a0_3 a0_4 : Bool) (l1 : List Int) (a2 : Int) : Option (Bool) := if decide (l1.length ≤ 4000000000000000000) && decide (-9223372036854775808 ≤ a2) && decide (a2 ≤ 9223372036854775807) then some true else none
set_option maxHeartbeats 64000000 in
set_option maxRecDepth 100000 in
theorem cuts_go (A0 : Option Addr) (n c0 : Nat) (x y z q : Int) (a d : Bool) (l : List Int) (w : World) (hG : GlobA w) (hl : l.length = n) (hC : (Kd.int .i64).C w A0 n l) (hnc : n ≤ c0) (hn : n ≤ 4000000000000000000) :
    Calls Tryd.prog 10 #[.agg #[.int .i64 x, .int .i64 y, .int .i64 z, .bool a, .bool d], .slice A0 n c0, .int .i64 q] w fun e w' => e = .returned (.bool true) ∧ Below w.heap.size w w' := by
  have hu39 := Tryd.underlying39
  have hu41 := Tryd.underlying41
  have hu47 := Tryd.underlying47
  have hu22 := Tryd.underlying22
  obtain ⟨N, hN⟩ : ∃ N : Nat, (N : Int) = specS a := ⟨(specS a).toNat, by cases a <;> decide⟩
  have hN1 : N = 16 ∨ N = 32 := by
    have : specS a = 16 ∨ specS a = 32 := by cases a <;> decide
    omega
  have hsr := spec_right x y z a d
  have hsp := spec_go x y z a d
  rw [← hN] at hsr hsp
  have hx0 := Int.emod_nonneg x (show (N : Int) ≠ 0 by omega)
  have hx1 := Int.emod_lt_of_pos x (show 0 < (N : Int) by omega)
  obtain ⟨Hp, hHp⟩ : ∃ H : Nat, (H : Int) = 1 + x % (N : Int) := ⟨(1 + x % (N : Int)).toNat, by omega⟩
  rw [← hHp] at hsr hsp
  have hH1 : 1 ≤ Hp := by omega
  have hHN : Hp ≤ N := by omega
  have hp0 := Int.emod_nonneg z (show (32768 : Int) ≠ 0 by decide)
  have hp1 := Int.emod_lt_of_pos z (show (0 : Int) < 32768 by decide)
  generalize specB d = b2 at hsr hsp
  generalize 1 + y % b2 = c2 at hsr hsp
  generalize z % 32768 = p2 at hsr hsp hp0 hp1
  have HSP : Aside0 (∀ W : World, Calls Tryd.prog 23 #[.agg #[.int .i64 x, .int .i64 y, .int .i64 z, .bool a, .bool d]] W fun e w' => e = .returned (.agg #[.int .i64 (N : Int), .int .i64 (Hp : Int), .int .i64 b2, .int .i64 c2, .int .i64 p2]) ∧ Below W.heap.size W w') := ⟨hsp⟩
  have HR2 := Aside0.mk hsr
  have HPP := Aside0.mk (And.intro hp0 hp1)
  have hN2 : N ≤ 32 := by omega
  have hN3 : 16 ≤ N := by omega
  have HG0 := Aside0.mk hG
  have hSl := soundL_len l
  have hSo := soundL_ok l
  have HSD : Aside0 (∀ W : World, (Kd.int .i64).C W A0 n l → Calls Tryd.prog 28 #[.slice A0 n c0] W fun e w' => ∃ A1 c1, e = .returned (.slice A1 (soundL l).length c1) ∧ (soundL l).length ≤ c1 ∧ Aside0 ((Kd.int .i64).R 3 w' W.heap.size (fun _ => True) (.slice A1 (soundL l).length c1) (soundL l)) ∧ Aside0 (Below W.heap.size W w')) := ⟨fun W hc => sound_d A0 n c0 l W hl hc hnc hn⟩
  have HC0 := Aside0.mk hC
  generalize soundL l = S at *
  obtain ⟨K, hK⟩ : ∃ k, S.length = k := ⟨_, rfl⟩
  rw [hK] at hSl
  obtain ⟨q1, q2, kk, m1, m2, m3, m4, hkk⟩ := cut_at q K (by omega)
  have x1 : IntKind.i64.wrap ((K : Int) + 1) = (K : Int) + 1 := by rw [IntKind.wrap_i64]; omega
  have x2 : IntKind.i64.wrap (kk : Int) = (kk : Int) := by rw [IntKind.wrap_i64]; omega
  have z0 : ¬ (K : Int) + 1 = 0 := by omega
  rw [hK] at HSD
  have HK := Aside0.mk hK
  have HSO := Aside0.mk hSo
  clear hsr hsp hG hN hN1 hx0 hx1 hHp hp0 hp1 hl hC hK hSo
  have ST0 : True := trivial
  go_enter Tryd.func10, Tryd.ntmps10
  go_upto_region 3 with (first
    | ((with_reducible refine gate_dst (N := 3) rfl ?_); refine box_event ?hg (N := 3) ?hd (cs := #[.int .i64 x, .int .i64 y, .int .i64 z, .bool a, .bool d]) (t := 41) ?hr ?_; (case hd => rfl); (case hg => first | rfl | exact wanted_on rfl rfl rfl (by first | assumption | rfl | (simp [*]; done))); (case hr => first | (go_simp; done) | (go_simp; rfl)); intro g3 hg3 w1 hbox hb; have B3 := Aside0.mk hbox; have HB1 := Aside0.mk hb; clear ST0 hbox hb hg3; have ST1 : True := trivial)
    | (go_at_call 22; clear ST1; (with_reducible refine (awake_go _ (HG0.out.below HB1.out)).mono ?_); rintro e_ w3 ⟨rfl, hb⟩; have HB3 := Aside0.mk (below_step HB1.out hb); have B3n := Aside0.mk (blk_below B3.out hb); clear hb HB1 B3; have B3 := B3n; clear B3n; have q0 := blk_cell B3.out 0; have q1 := blk_cell B3.out 1; have q2 := blk_cell B3.out 2; have q3 := blk_cell B3.out 3; have q4 := blk_cell B3.out 4; have ST3 : True := trivial)
    | (go_at_call 23; clear ST3; (with_reducible refine (HSP.out _).mono ?_); rintro e_ w4 ⟨rfl, hb⟩; have HB4 := Aside0.mk (below_step HB3.out hb); clear hb HB3 B3 q0 q1 q2 q3 q4; have ST4 : True := trivial)
    | ((with_reducible refine gate_dst (N := 8) rfl ?_); refine box_event ?hg (N := 8) ?hd (cs := #[.int .i64 0, .int .i64 0, .int .i64 0, .int .i64 0, .int .i64 0]) (t := 39) ?hr ?_; (case hd => rfl); (case hg => first | rfl | exact wanted_on rfl rfl rfl (by first | assumption | rfl | (simp [*]; done))); (case hr => first | (go_simp; done) | (go_simp; rfl)); intro g8 hg8 w5 hbox hb; have B8 := Aside0.mk hbox; have HB5 := Aside0.mk (below_step HB4.out hb); have hgl8 : w.heap.size ≤ g8 := (by rw [hg8]; exact HB4.out.size); clear ST4 hbox hb hg8 HB4; have q0 := blk_cell B8.out 0; have q1 := blk_cell B8.out 1; have q2 := blk_cell B8.out 2; have q3 := blk_cell B8.out 3; have q4 := blk_cell B8.out 4;have f0 := blk_frozen B8.out 0; have f1 := blk_frozen B8.out 1; have f2 := blk_frozen B8.out 2; have f3 := blk_frozen B8.out 3; have f4 := blk_frozen B8.out 4; have ST5 : True := trivial))
  obtain ⟨w6, hw6⟩ : ∃ W, fill5 w5 g8 (.int .i64 (N : Int)) (.int .i64 (Hp : Int)) (.int .i64 b2) (.int .i64 c2) (.int .i64 p2) = W := ⟨_, rfl⟩
  have B8n := Aside0.mk (hw6 ▸ fill5_at B8.out (.int .i64 (N : Int)) (.int .i64 (Hp : Int)) (.int .i64 b2) (.int .i64 c2) (.int .i64 p2))
  have HB6 := Aside0.mk (hw6 ▸ fill5_below HB5.out hgl8 (.int .i64 (N : Int)) (.int .i64 (Hp : Int)) (.int .i64 b2) (.int .i64 c2) (.int .i64 p2))
  unfold fill5 at hw6
  rw [hw6]
  clear hw6 B8 HB5 q0 q1 q2 q3 q4 f0 f1 f2 f3 f4
  go_upto_region 4 with (first
    | (go_at_call 28; clear ST5; (with_reducible refine (HSD.out _ (Kd.C_below HC0.out HB6.out)).mono ?_); rintro e_ wb ⟨AS, cS, rfl, hcS, HRS, hb⟩; have HB7 := Aside0.mk (below_step HB6.out hb.out); have B8 := Aside0.mk (blk_below B8n.out hb.out); clear hb HB6 B8n; have ST6 : True := trivial))
  have hKS := HK.out
  have HBw0 := HB7
  obtain ⟨P, hP⟩ : ∃ L, S.take kk = L := ⟨_, rfl⟩
  obtain ⟨Q, hQ⟩ : ∃ L, S.drop kk = L := ⟨_, rfl⟩
  have hPQ : P ++ Q = S := by rw [← hP, ← hQ, List.take_append_drop]
  have hPl : P.length = kk := by rw [← hP, List.length_take]; omega
  have hQl : Q.length = K - kk := by rw [← hQ, List.length_drop]; omega
  have hPo : P.any badPU = false := by
    have := HSO.out
    rw [← hPQ, List.any_append, Bool.or_eq_false_iff] at this
    exact this.1
  have hQo : Q.any badPU = false := by
    have := HSO.out
    rw [← hPQ, List.any_append, Bool.or_eq_false_iff] at this
    exact this.2
  have hCS : (Kd.int .i64).C wb AS K S := R_C HRS.out
  have hCP : (Kd.int .i64).C wb AS kk P := by
    have h1 := hCS
    rw [← hKS] at h1
    have := Kd.C_take h1 (m := kk) (by omega)
    rwa [hP, hPl] at this
  obtain ⟨AQ, hAQ⟩ : ∃ A, (if cS = kk then AS else AS.map (·.add kk)) = A := ⟨_, rfl⟩
  have hCQ : (Kd.int .i64).C wb AQ (K - kk) Q := by
    have h1 := hCS
    rw [← hKS] at h1
    have := Kd.C_drop h1 (m := kk) (c := cS) (by omega) (by omega)
    rw [hQ, hQl, show kk * (Kd.int IntKind.i64).sz = kk by show kk * 1 = kk; omega, hAQ] at this
    exact this
  have hBS : ∀ ad, AS = some ad → 0 < K → ad.block < wb.heap.size := fun ad e h => by
    obtain ⟨gr, cr, hfe, _, h2, _⟩ := Kd.R_form HRS.out (by omega)
    injection hfe with e1 _ _
    rw [e1] at e
    injection e with e
    rw [← e]; exact h2
  have hBQ : ∀ ad, AQ = some ad → 0 < K → ad.block < wb.heap.size := fun ad e h => by
    rw [← hAQ] at e
    split at e
    · exact hBS ad e h
    · obtain ⟨ad0, h0, h1⟩ := Option.map_eq_some_iff.1 e
      rw [← h1, add_block]
      exact hBS ad0 h0 h
  have HBS := Aside0.mk hBS
  have HBQ := Aside0.mk hBQ
  have HCP := Aside0.mk hCP
  have HCQ := Aside0.mk hCQ
  have HPO := Aside0.mk hPo
  have HQO := Aside0.mk hQo
  have HPL := Aside0.mk hPl
  have HQL := Aside0.mk hQl
  have HPQ := Aside0.mk hPQ
  have HGW := Aside0.mk (HG0.out.below HB7.out)
  have hw1 : 1 ≤ wb.heap.size := HGW.out.1
  obtain ⟨TA, hTA⟩ : ∃ F, frsL (N : Int) (Hp : Int) b2 c2 p2 P = F := ⟨_, rfl⟩
  obtain ⟨FS, hFS⟩ : ∃ F, frsL (N : Int) (Hp : Int) b2 c2 p2 S = F := ⟨_, rfl⟩
  obtain ⟨TB, hTB⟩ : ∃ T, frsL (N : Int) (Hp : Int) b2 c2 p2 (P ++ Q) = frsL (N : Int) (Hp : Int) b2 c2 p2 P ++ T := ⟨_, (cut_step (s := (N : Int)) (h := (Hp : Int)) (b := b2) (c := c2) (p := p2) (by omega) (by omega) (by omega) P Q).1⟩
  have hAB : TA ++ TB = FS := by rw [← hFS, ← hTA, ← hPQ]; exact hTB.symm
  obtain ⟨ta, hta⟩ : ∃ k, TA.length = k := ⟨_, rfl⟩
  obtain ⟨tb, htb⟩ : ∃ k, TB.length = k := ⟨_, rfl⟩
  obtain ⟨fs, hfs⟩ : ∃ k, FS.length = k := ⟨_, rfl⟩
  have hsum : ta + tb = fs := by rw [← hfs, ← hAB, List.length_append, hta, htb]
  obtain ⟨hsm, hrows⟩ := frs_small (N := N) (Hp := Hp) (b := b2) (c := c2) (p := p2) (by omega) (by omega) S
  rw [hFS] at hsm hrows
  have hfs2 : fs ≤ 91 := by omega
  obtain ⟨lp, hlp⟩ : ∃ r, lastL 0 P = r := ⟨_, rfl⟩
  obtain ⟨RP, hRP⟩ : ∃ R, rssL (N : Int) (Hp : Int) b2 c2 p2 P = R := ⟨_, rfl⟩
  have HNW : Aside0 (∀ W : World, GlobA W → Calls Tryd.prog 30 #[.agg #[.int .i64 (N : Int), .int .i64 (Hp : Int), .int .i64 b2, .int .i64 c2, .int .i64 p2]] W fun e w' => ∃ g, e = .returned (.pointer (some ⟨g, 0, none⟩)) ∧ W.heap.size ≤ g ∧ w'.heap[g]? = some (.cells (strC (N : Int) (Hp : Int) b2 c2 p2 0 0 (.slice none 0 0)) 86 (0, 0)) ∧ Below W.heap.size W w') := ⟨fun W hg => new_yes _ _ b2 c2 p2 W hg HR2.out⟩
  have hr0 : rssL (N : Int) (Hp : Int) b2 c2 p2 [] = [] := by
    unfold rssL
    rw [show flatL p2 0 [] = [] from rfl, cutA_no _ (by show 0 < (N : Int).toNat; omega)]
  have hf0 : frsL (N : Int) (Hp : Int) b2 c2 p2 [] = [] := frs_nil (by omega)
  have HP0 : Aside0 (∀ (g : Nat) (W : World), Below wb.heap.size wb W → StrAt W g wb.heap.size (N : Int) (Hp : Int) b2 c2 p2 0 0 (.slice none 0 0) [] → Calls Tryd.prog 31 #[.pointer (some ⟨g, 0, none⟩), .slice none 0 0] W fun e w' => ∃ A1 c1 v', e = .returned (.tuple #[.slice A1 0 c1, .int .i64 0]) ∧ Aside0 (StrAt w' g wb.heap.size (N : Int) (Hp : Int) b2 c2 p2 0 0 v' []) ∧ Aside0 (Below wb.heap.size wb w')) := ⟨fun g W hb hs => by
    refine (push_b none 0 0 g N Hp b2 c2 p2 0 0 [] [] [] 0 (.slice none 0 0) [] 0 0 [] W HGW.out hb hs rfl rfl hr0 rfl (Kd.R_reads' (Kd.R_nil (Kd.int .i64) 0 W 0 (fun _ => True))).2.2 (fun ad e => by cases e) rfl rfl HPP.out (by omega) hH1 hHN (by omega) (by omega) (by decide) (by rw [List.append_nil, List.append_nil]) rfl rfl rfl hr0).mono ?_
    rintro e_ w' ⟨A1, c1, v', rfl, _, h1, _, _, _, h2⟩
    exact ⟨A1, c1, v', rfl, h1, h2⟩⟩
  have HP1 : Aside0 (∀ (g : Nat) (v : Value) (W : World), Below wb.heap.size wb W → StrAt W g wb.heap.size (N : Int) (Hp : Int) b2 c2 p2 0 0 v [] → Calls Tryd.prog 31 #[.pointer (some ⟨g, 0, none⟩), .slice AS kk cS] W fun e w' => ∃ A1 c1 v', e = .returned (.tuple #[.slice A1 ta c1, .int .i64 0]) ∧ Aside0 (StrAt w' g wb.heap.size (N : Int) (Hp : Int) b2 c2 p2 (kk : Int) lp v' RP) ∧ Aside0 (R2 w' wb.heap.size (fun q => q ≠ g ∧ some q ≠ v'.ownBlock) (.slice A1 ta c1) TA) ∧ Aside0 (Below wb.heap.size wb w')) := ⟨fun g v W hb hs => by
    refine (push_b AS cS kk g N Hp b2 c2 p2 0 0 [] P TA ta v [] (kk : Int) lp RP W HGW.out hb hs rfl rfl hr0 HPL.out (Kd.C_below HCP.out hb) (far_of hs (fun ad e h => HBS.out ad e (by omega))) HPO.out rfl HPP.out (by omega) hH1 hHN (by omega) (by omega) (by decide) (by rw [List.nil_append, hf0, List.nil_append]; exact hTA) hta (by rw [List.nil_append, HPL.out]) hlp hRP).mono ?_
    rintro e_ w' ⟨A1, c1, v', rfl, _, h1, h3, _, _, h2⟩
    exact ⟨A1, c1, v', rfl, h1, ⟨Kd.R_lower h3.out hb.size⟩, h2⟩⟩
  have HP2 : Aside0 (∀ (g : Nat) (v : Value) (W : World) (c : Nat), Below wb.heap.size wb W → StrAt W g wb.heap.size (N : Int) (Hp : Int) b2 c2 p2 (kk : Int) lp v RP → Calls Tryd.prog 31 #[.pointer (some ⟨g, 0, none⟩), .slice AQ (K - kk) c] W fun e w' => ∃ A1 c1 v', e = .returned (.tuple #[.slice A1 tb c1, .int .i64 0]) ∧ Aside0 (StrAt w' g wb.heap.size (N : Int) (Hp : Int) b2 c2 p2 ((P ++ Q).length : Int) (lastL 0 (P ++ Q)) v' (rssL (N : Int) (Hp : Int) b2 c2 p2 (P ++ Q))) ∧ Aside0 (R2 w' wb.heap.size (fun q => q ≠ g ∧ some q ≠ v'.ownBlock) (.slice A1 tb c1) TB) ∧ Aside0 (Keeps W w' g v.ownBlock) ∧ Aside0 (∀ k, v'.ownBlock = some k → some k = v.ownBlock ∨ W.heap.size ≤ k) ∧ Aside0 (Below wb.heap.size wb w')) := ⟨fun g v W c hb hs => by
    refine (push_b AQ c (K - kk) g N Hp b2 c2 p2 (kk : Int) lp P Q TB tb v RP _ _ _ W HGW.out hb hs (by rw [HPL.out]) hlp hRP HQL.out (Kd.C_below HCQ.out hb) (far_of hs (fun ad e h => HBQ.out ad e (by omega))) HQO.out HPO.out HPP.out (by omega) hH1 hHN (by omega) (by omega) (by rw [HPL.out]; omega) hTB htb rfl rfl rfl).mono ?_
    rintro e_ w' ⟨A1, c1, v', rfl, _, h1, h3, h4, h5, h2⟩
    exact ⟨A1, c1, v', rfl, h1, ⟨Kd.R_lower h3.out hb.size⟩, h4, h5, h2⟩⟩
  have HRW : Aside0 (∀ (W : World) (A1 A2 : Option Addr) (d1 d2 : Nat), (Kd.slice 3 (Kd.int .i64)).C W A1 fs FS → fs ≤ d1 → (Kd.slice 3 (Kd.int .i64)).C W A2 fs FS → fs ≤ d2 → Calls Tryd.prog 34 #[.slice A1 fs d1, .slice A2 fs d2] W fun e w' => e = .returned (.bool true) ∧ Aside0 (Below W.heap.size W w')) := ⟨fun W A1 A2 d1 d2 => rows_d FS fs hfs (by omega) hrows W A1 A2 d1 d2⟩
  have HCS := Aside0.mk hCS
  have HFS := Aside0.mk hFS
  have HTA := Aside0.mk hta
  have HTB := Aside0.mk htb
  have HAB := Aside0.mk hAB
  have HFSL := Aside0.mk hfs
  have HR0 := Aside0.mk hr0
  have HF0 := Aside0.mk hf0
  have q0 := blk_cell B8.out 0
  have q1 := blk_cell B8.out 1
  have q2 := blk_cell B8.out 2
  have q3 := blk_cell B8.out 3
  have q4 := blk_cell B8.out 4
  have a1 : (0 : Int) ≤ (kk : Int) := by omega
  have a2 : (kk : Int) ≤ (cS : Int) := by omega
  have a3 : (kk : Int) ≤ (K : Int) := by omega
  clear hP hQ hPQ hPl hQl hPo hQo hCS hCP hCQ hBS hBQ hTA hFS hTB hta htb hAB hfs hsm hrows hlp hRP hr0 hf0 hKS HRS
  have ST0 : True := trivial
  go_upto_region 9 with (first
    | (go_at_call 30; clear ST0; (with_reducible refine (HNW.out _ HGW.out).mono ?_); rintro e_ w1 ⟨gs, rfl, hg, hbk, B1⟩; have hgs0 : wb.heap.size ≤ gs := hg; have HB1 := Aside0.mk B1; have HS1 : Aside0 (StrAt w1 gs wb.heap.size (N : Int) (Hp : Int) b2 c2 p2 0 0 (.slice none 0 0) []) := ⟨StrAt.new hbk hg⟩; clear hbk B1 hg q0 q1 q2 q3 q4; have ST1 : True := trivial)
    | (go_at_call 31; clear ST1; (with_reducible refine (HP0.out gs w1 HB1.out HS1.out).mono ?_); rintro e_ w2 ⟨A0_, c0_, v2, rfl, HS2, HB2⟩; clear HS1 HB1; have ST2 : True := trivial)
    | (go_at_call 31; clear ST2; (with_reducible refine (HP1.out gs v2 w2 HB2.out HS2.out).mono ?_); rintro e_ w3 ⟨Aa, ca, v3, rfl, HS3, HA3, HB3⟩; clear HS2 HB2))
  go_cut [17, 18] from 24 (fun y1 y2 W => ∃ A1 c1 v', y1 = .slice A1 tb c1 ∧ y2 = .int .i64 0 ∧ Aside0 (StrAt W gs wb.heap.size (N : Int) (Hp : Int) b2 c2 p2 ((P ++ Q).length : Int) (lastL 0 (P ++ Q)) v' (rssL (N : Int) (Hp : Int) b2 c2 p2 (P ++ Q))) ∧ Aside0 (R2 W wb.heap.size (fun q => q ≠ gs ∧ some q ≠ v'.ownBlock) (.slice A1 tb c1) TB) ∧ Aside0 (R2 W wb.heap.size (fun q => q ≠ gs ∧ some q ≠ v'.ownBlock) (.slice Aa ta ca) TA) ∧ Aside0 (Below wb.heap.size wb W))
  case first =>
    by_cases hcs : cS = kk
    · have hAQ2 : AQ = AS := by rw [← hAQ, if_pos hcs]
      subst hAQ2
      clear hAQ
      subst hcs
      have hz : K - cS = 0 := by omega
      have hp2 := HP2.out
      rw [hz] at hp2
      have HP2 := Aside0.mk hp2
      clear hp2 hz
      go_wp2_with (go_at_call 31; (refine (HP2.out gs v3 w3 _ HB3.out HS3.out).mono ?_); rintro e_ w4 ⟨Ab, cb, v4, rfl, h1, h2, h3, h4, h5⟩)
      go_meet
      case rel => exact ⟨Ab, cb, v4, rfl, rfl, h1, h2, ⟨keep_R HA3.out h3.out h4.out⟩, h5⟩
    · have hAQ2 : AQ = Option.map (fun x => x.add kk) AS := by rw [← hAQ, if_neg hcs]
      clear hAQ
      subst hAQ2
      go_wp2_with (go_at_call 31; (refine (HP2.out gs v3 w3 _ HB3.out HS3.out).mono ?_); rintro e_ w4 ⟨Ab, cb, v4, rfl, h1, h2, h3, h4, h5⟩)
      go_meet
      case rel => exact ⟨Ab, cb, v4, rfl, rfl, h1, h2, ⟨keep_R HA3.out h3.out h4.out⟩, h5⟩
  case rest =>
  obtain ⟨Ab, cb, v4, rfl, rfl, HS4, HRB4, HRA4, HB4⟩ := hcut
  clear HS3 HA3 HB3 HP0 HP1 HP2 hAQ HBQ HCQ
  have ST0 : True := trivial
  go_upto_region 13 with (first
    | (go_at_call 35; clear ST0; refine (reset_go gs _ _ _ _ _ _ _ _ _ HS4.out.1).mono ?_; rintro e_ w5 ⟨rfl, hbk, hk⟩; have HS5 : Aside0 (StrAt w5 gs wb.heap.size (N : Int) (Hp : Int) b2 c2 p2 0 0 (.slice none 0 0) []) := ⟨StrAt.new hbk hgs0⟩; have HA5 : Aside0 (R2 w5 wb.heap.size (fun q => q ≠ gs) (.slice Aa ta ca) TA) := ⟨Kd.R_mono (hk.R HRA4.out (fun q hq => ⟨hq.1, fun e_ => by cases e_⟩)) (fun q hq => hq.1)⟩; have HBb5 : Aside0 (R2 w5 wb.heap.size (fun q => q ≠ gs) (.slice Ab tb cb) TB) := ⟨Kd.R_mono (hk.R HRB4.out (fun q hq => ⟨hq.1, fun e_ => by cases e_⟩)) (fun q hq => hq.1)⟩; have HB5 := Aside0.mk (HB4.out.trans (hk.toBelow HB4.out.size hgs0 (fun k e => by cases e))); clear hbk hk HS4 HRA4 HRB4 HB4; have ST1 : True := trivial)
    | (go_at_call 33; clear ST1; refine (count_go gs _ _ _ _ _ _ _ _ _ HS5.out.1).mono ?_; rintro e_ wA ⟨rfl, hs⟩; have HSA := Aside0.mk (HS5.out.below hs); have HAA := Aside0.mk (Kd.R_below HA5.out hs); have HAB_ := Aside0.mk (Kd.R_below HBb5.out hs); have HBA := Aside0.mk (below_step HB5.out hs); clear hs HS5 HA5 HBb5 HB5))
  have hgsA : gs < wA.heap.size := blk_lt HSA.out.1
  have HKA : Aside0 (Keeps wA wA gs none) := ⟨Keeps.refl _ _ _⟩
  have HVA : Aside0 (∀ k, (Value.slice none 0 0).ownBlock = some k → wA.heap.size ≤ k) := ⟨fun k hk => by simp [Value.ownBlock] at hk⟩
  have HCA : Aside0 (R2 wA wA.heap.size (fun q => some q ≠ (Value.slice none 0 0).ownBlock) (.slice none 0 0) (frsL (N : Int) (Hp : Int) b2 c2 p2 (S.take 0))) := ⟨by rw [List.take_zero, HF0.out]; exact Kd.R_nil _ _ _ _ _⟩
  have HSA0 : Aside0 (StrAt wA gs wb.heap.size (N : Int) (Hp : Int) b2 c2 p2 ((0 : Nat) : Int) (lastL 0 (S.take 0)) (.slice none 0 0) (rssL (N : Int) (Hp : Int) b2 c2 p2 (S.take 0))) := ⟨by rw [List.take_zero, HR0.out]; exact HSA.out⟩
  clear HSA
  go_wp2
  go_loopw [19, 20] (fun x1 x2 wr => ∃ (i : Nat) (v : Value) (Ac : Option Addr) (cl cc : Nat), x1 = .slice Ac cl cc ∧ x2 = .int .i64 (i : Int) ∧ i ≤ K ∧ Aside0 ((frsL (N : Int) (Hp : Int) b2 c2 p2 (S.take i)).length = cl ∧ cl ≤ cc) ∧ Aside0 (StrAt wr gs wb.heap.size (N : Int) (Hp : Int) b2 c2 p2 (i : Int) (lastL 0 (S.take i)) v (rssL (N : Int) (Hp : Int) b2 c2 p2 (S.take i))) ∧ Aside0 (R2 wr wA.heap.size (fun q => some q ≠ v.ownBlock) (.slice Ac cl cc) (frsL (N : Int) (Hp : Int) b2 c2 p2 (S.take i))) ∧ Aside0 (Keeps wA wr gs none) ∧ Aside0 (∀ k, v.ownBlock = some k → wA.heap.size ≤ k)) (fun _ x _ => K - (intOf x).toNat)
  case atStart => exact ⟨0, .slice none 0 0, none, 0, 0, rfl, rfl, by omega, ⟨by rw [List.take_zero, HF0.out]; exact ⟨rfl, Nat.le_refl _⟩⟩, HSA0, HCA, HKA, HVA⟩
  case round =>
    clear HKA HVA HCA HSA0
    obtain ⟨i, v, Ac, cl, cc, rfl, rfl, hi, HCLL, HS, HC, HK_, HV⟩ := hrel
    have HBr := Aside0.mk (HBA.out.trans (HK_.out.toBelow HBA.out.size hgs0 (fun k e => by cases e)))
    by_cases hlt : i < K
    · have hC1 := Kd.C_below HCS.out HBr.out
      obtain ⟨a0, rfl, hcs⟩ := sp_ad hC1 (by omega)
      have k0 := hcs i hlt
      obtain ⟨x0, hx0⟩ : ∃ q, S.getD i 0 = q := ⟨_, rfl⟩
      rw [hx0] at k0
      have hKS := HK.out
      have htk : S.take i ++ [x0] = S.take (i + 1) := by rw [← hx0]; exact (take_snoc S i (by omega)).symm
      obtain ⟨T, hT⟩ : ∃ T, frsL (N : Int) (Hp : Int) b2 c2 p2 (S.take i ++ [x0]) = frsL (N : Int) (Hp : Int) b2 c2 p2 (S.take i) ++ T := ⟨_, (cut_step (s := (N : Int)) (h := (Hp : Int)) (b := b2) (c := c2) (p := p2) (by omega) (by omega) (by omega) (S.take i) [x0]).1⟩
      have hT1 := one_more (s := (N : Int)) (h := (Hp : Int)) (b := b2) (c := c2) (p := p2) (by omega) (by omega) (S.take i) x0 T hT
      obtain ⟨tl, htl⟩ : ∃ k, T.length = k := ⟨_, rfl⟩
      rw [htl] at hT1
      have hCn : frsL (N : Int) (Hp : Int) b2 c2 p2 (S.take (i + 1)) = frsL (N : Int) (Hp : Int) b2 c2 p2 (S.take i) ++ T := by rw [← htk]; exact hT
      have hso : (S.take i).any badPU = false ∧ [x0].any badPU = false := by
        have h2 : (S.take (i + 1)).any badPU = false := by
          have h3 := HSO.out
          rw [← List.take_append_drop (i + 1) S, List.any_append, Bool.or_eq_false_iff] at h3
          exact h3.1
        rw [← htk, List.any_append, Bool.or_eq_false_iff] at h2
        exact h2
      have hil : (S.take i).length = i := by rw [List.length_take]; omega
      have hcl : cl ≤ 92 := by
        have := (frs_small (N := N) (Hp := Hp) (b := b2) (c := c2) (p := p2) (by omega) (by omega) (S.take i)).1
        have := HCLL.out.1
        omega
      have HPU : Aside0 (Calls Tryd.prog 31 #[.pointer (some ⟨gs, 0, none⟩), .slice (some ⟨wr.heap.size, 0, none⟩) 1 1] (wr.alloc (.cells #[.int .i64 x0] 3)) fun e w' => ∃ A1 c1 v', e = .returned (.tuple #[.slice A1 tl c1, .int .i64 0]) ∧ Aside0 (StrAt w' gs wb.heap.size (N : Int) (Hp : Int) b2 c2 p2 ((i + 1 : Nat) : Int) (lastL 0 (S.take (i + 1))) v' (rssL (N : Int) (Hp : Int) b2 c2 p2 (S.take (i + 1)))) ∧ Aside0 (R2 w' wr.heap.size (fun q => q ≠ gs ∧ some q ≠ v'.ownBlock) (.slice A1 tl c1) T) ∧ Aside0 (R2 w' wA.heap.size (fun q => q ≠ gs ∧ some q ≠ v'.ownBlock) (.slice Ac cl cc) (frsL (N : Int) (Hp : Int) b2 c2 p2 (S.take i))) ∧ Aside0 (Keeps wA w' gs none) ∧ Aside0 (∀ k, v'.ownBlock = some k → wA.heap.size ≤ k)) := ⟨by
        have ha := below_alloc (Below.refl wr.heap.size wr) (.cells #[.int .i64 x0] 3)
        have hst := HS.out.below ha
        refine (push_b (some ⟨wr.heap.size, 0, none⟩) 1 1 gs N Hp b2 c2 p2 (i : Int) _ (S.take i) [x0] T tl v _ ((i + 1 : Nat) : Int) (lastL 0 (S.take (i + 1))) (rssL (N : Int) (Hp : Int) b2 c2 p2 (S.take (i + 1))) _ HGW.out (below_step HBr.out ha) hst (by rw [hil]) rfl rfl rfl (lit_c wr [x0] (by show 1 ≤ 1000000; omega)) (far_new (W := wr) (v := v) (blk_lt HS.out.1) (fun k hk => (HS.out.ne k hk).2.2) 1) hso.2 hso.1 HPP.out (by omega) hH1 hHN (by omega) (by omega) (by omega) hT htl (by rw [List.length_append, hil]; rfl) (by rw [htk]) (by rw [htk])).mono ?_
        rintro e_ w' ⟨A1, c1, v', rfl, _, h1, h2, h3, h4, h5⟩
        have hca : R2 (wr.alloc (.cells #[.int .i64 x0] 3)) wA.heap.size (fun q => q ≠ gs ∧ some q ≠ v.ownBlock) (.slice Ac cl cc) (frsL (N : Int) (Hp : Int) b2 c2 p2 (S.take i)) := Kd.R_mono (Kd.R_bound (Kd.R_below HC.out ha)) (fun q hq => ⟨by have := hq.2.1; omega, hq.1⟩)
        refine ⟨A1, c1, v', rfl, h1, ⟨Kd.R_lower h2.out ha.size⟩, ⟨keep_R hca h3.out h4.out⟩, ⟨(HK_.out.below ha).trans h3.out (fun k e => .inr (HV.out k e))⟩, ⟨fun k hk => ?_⟩⟩
        rcases h4.out k hk with h6 | h6
        · exact HV.out k h6.symm
        · have := ha.size; have := HK_.out.size; omega⟩
      have HCN := Aside0.mk hCn
      have HCLT : Aside0 (∀ k, (Value.slice Ac cl cc).ownBlock = some k → k < wr.heap.size) := ⟨Kd.R_lt HC.out⟩
      have HTL := Aside0.mk htl
      have y1 : (i : Int) < (K : Int) := by omega
      have y2 : (0 : Int) ≤ (i : Int) := by omega
      have y3 : ¬ (1 : Int) < (tl : Int) := by omega
      have hrA := HK_.out.size
      clear hcs hC1 hx0 hKS htk hT htl hCn hso hil HS HC HK_ HV HBr
      go_wp2_with (first
        | (go_at_call 31; refine HPU.out.mono ?_; rintro e_ W1 ⟨B1, d1, va, rfl, HSa, HTa, HCa, HKa, HVa⟩; have hsz1 : wA.heap.size ≤ W1.heap.size := HKa.out.size; clear HPU)
        | ((with_reducible refine gate_builtin (b := .append) (xs := #[.tmp 107, .tmp 108]) rfl ?_); at_builtin; refine Kd.R_append_rows (Kd.slice 3 (Kd.int .i64)) (w0 := W1) wA.heap.size rfl (.tmp 107) (.tmp 108) 47 22 (.slice none 0 0) 24 rfl Tryd.underlying47 rows_info rfl (by decide) (by decide) (.slice Ac cl cc) (frsL (N : Int) (Hp : Int) b2 c2 p2 (S.take i)) T B1 tl d1 (fun q => q ≠ gs ∧ some q ≠ va.ownBlock) _ rfl rfl HCa.out (rows_reads (Kd.R_lower (Kd.R_bound HTa.out) hrA)) (fun _ _ h => h) ?hp ?hf (Below.refl _ _) hsz1 ?hl ?_; (case hp => exact fun k hk => ⟨hk.1.1, fun e_ => by have := HCLT.out k e_.symm; have := hk.1.2.1; omega⟩); (case hf => exact fun k hk => ⟨by have := blk_lt HSa.out.1; omega, fun e_ => by have := (HSa.out.ne k e_.symm).2.2; omega⟩); (case hl => rw [HCLL.out.1]; omega); intro vc wn ho hb hg hat; rw [← HCN.out] at ho; obtain ⟨An, cn, hvc, hcn, _⟩ := Kd.R_reads ho; obtain ⟨nl, hnl⟩ : ∃ k, (frsL (N : Int) (Hp : Int) b2 c2 p2 (S.take (i + 1))).length = k := ⟨_, rfl⟩; rw [hnl] at hvc hcn; subst hvc; have HNL := Aside0.mk (And.intro hnl hcn); have HSn := Aside0.mk (StrAt.grown HSa.out hg (fun e => (HCa.out.1 gs e.symm).1 rfl) (fun k hk e => (HCa.out.1 k e.symm).2 hk.symm)); have HKn := Aside0.mk (HKa.out.grown hg (fun k hk => .inr (Kd.R_base HCa.out k hk))); have HCn := Aside0.mk (Kd.R_mono ho (ok' := fun q => some q ≠ va.ownBlock) (fun q hq => hq.2)); clear hnl hcn ho hb hg hat HSa HTa HCa HKa))
      go_roundw
      case rel => exact ⟨i + 1, va, An, nl, cn, rfl, by go_num, by omega, HNL, HSn, HCn, HKn, HVa⟩
      case measure => simp [intOf]; omega
    · obtain rfl : K = i := by omega
      have hSK : S.take K = S := List.take_of_length_le (by rw [HK.out]; exact Nat.le_refl _)
      have HSf : Aside0 (StrAt wr gs wb.heap.size (N : Int) (Hp : Int) b2 c2 p2 (K : Int) (lastL 0 (S.take K)) v (rssL (N : Int) (Hp : Int) b2 c2 p2 (S.take K))) := HS
      have hclf := HCLL.out
      have hcf := HC.out
      rw [hSK, HFS.out] at hclf hcf
      rw [HFSL.out] at hclf
      obtain ⟨e1, hcc⟩ := hclf
      subst e1
      have HCf : Aside0 ((Kd.slice 3 (Kd.int .i64)).C wr Ac fs FS) := ⟨by have h := (Kd.R_reads' hcf).2.2; rwa [HFSL.out] at h⟩
      have HAr : Aside0 (R2 wr wb.heap.size (fun q => q < wr.heap.size) (.slice Aa ta ca) TA) := ⟨Kd.R_mono (Kd.R_bound (HK_.out.R HAA.out (fun q hq => ⟨hq, fun e => by cases e⟩))) (fun q hq => hq.2.2.1)⟩
      have HBbr : Aside0 (R2 wr wb.heap.size (fun q => q < wr.heap.size) (.slice Ab tb cb) TB) := ⟨Kd.R_mono (Kd.R_bound (HK_.out.R HAB_.out (fun q hq => ⟨hq, fun e => by cases e⟩))) (fun q hq => hq.2.2.1)⟩
      have hbr := HBr.out.size
      have y1 : ¬ (K : Int) < (K : Int) := by omega
      have HEND : Aside0 (Below w.heap.size w wr) := ⟨below_step HBw0.out HBr.out⟩
      clear hSK hcf HS HC HK_ HV hlt HCLL
      have ST0 : True := trivial
      go_wp2_with (first
        | ((with_reducible refine gate_dst (N := 110) rfl ?_); clear ST0; refine Kd.R_lit (Kd.slice 3 (Kd.int .i64)) (w0 := wr) wr.heap.size 22 ?hg (N := 110) ?hd (xs := ([] : List (List Int))) (inner := []) (ok := fun _ => True) (okp := fun _ => True) ?hr ?hp (fun _ hk => hk) trivial (Below.refl _ _) (Nat.le_refl _) (by simp) ?_; (case hd => rfl); (case hg => first | rfl | exact wanted_on rfl rfl rfl (by first | assumption | rfl | (simp [*]; done))); (case hr => first | (go_simp; done) | (go_simp; rfl)); (case hp => exact Reps.none _ _); intro ve wl ho hbl hg_ hnew_; clear hg_; have HE := Aside0.mk (Kd.R_lower ho hbr); have HBL := Aside0.mk hbl; have HVE := Aside0.mk hnew_; have ST1 : True := trivial; clear ho hbl hnew_)
        | ((with_reducible refine gate_builtin (b := .append) (xs := #[.tmp 110, .tmp 111]) rfl ?_); at_builtin; clear ST1; refine Kd.R_append_rows (Kd.slice 3 (Kd.int .i64)) (w0 := wl) wb.heap.size rfl (.tmp 110) (.tmp 111) 47 22 (.slice none 0 0) 24 rfl Tryd.underlying47 rows_info rfl (by decide) (by decide) ve [] TA Aa ta ca (fun _ => True) _ rfl rfl HE.out (rows_reads (Kd.R_below HAr.out HBL.out)) (fun _ _ h => h) ?hp (fun _ _ => trivial) (Below.refl _ _) ?hb ?hl ?_; (case hp => exact fun k hk => ⟨trivial, fun e => by obtain ⟨b, hb1, hb2⟩ := HVE.out; rw [hb1] at e; injection e with e; have := hk.1; omega⟩); (case hb => have := HBL.out.size; omega); (case hl => show (0 + ta) * 24 ≤ 140737488355328; omega); intro vm wm ho hb hg hat; rw [List.nil_append] at ho; have HM := Aside0.mk ho; have HBM := Aside0.mk (pw_below_grown HBL.out _ HBL.out.size hg (fun k hk => by obtain ⟨b, hb1, hb2⟩ := HVE.out; rw [hb1] at hk; injection hk with hk; omega)); have HVM : Aside0 (∃ b, vm.ownBlock = some b ∧ wr.heap.size ≤ b) := ⟨by rcases hat with h | ⟨b, h1, h2⟩; exact (h ▸ HVE.out); exact ⟨b, h1, by have := HBL.out.size; omega⟩⟩; clear ho hb hg hat HE HBL HVE; have ST2 : True := trivial)
        | ((with_reducible refine gate_builtin (b := .append) (xs := #[.tmp 112, .tmp 113]) rfl ?_); at_builtin; clear ST2; refine Kd.R_append_rows (Kd.slice 3 (Kd.int .i64)) (w0 := wm) wb.heap.size rfl (.tmp 112) (.tmp 113) 47 22 (.slice none 0 0) 24 rfl Tryd.underlying47 rows_info rfl (by decide) (by decide) vm TA TB Ab tb cb (fun _ => True) _ rfl rfl HM.out (rows_reads (Kd.R_below HBbr.out HBM.out)) (fun _ _ h => h) ?hp (fun _ _ => trivial) (Below.refl _ _) ?hb ?hl ?_; (case hp => exact fun k hk => ⟨trivial, fun e => by obtain ⟨b, hb1, hb2⟩ := HVM.out; rw [hb1] at e; injection e with e; have := hk.1; omega⟩); (case hb => have := HBM.out.size; omega); (case hl => rw [HTA.out]; omega); intro vn wn ho hb hg hat; rw [HAB.out] at ho; obtain ⟨Ax, cx, hvx, hcx, hX⟩ := Kd.R_reads ho; rw [HFSL.out] at hvx hcx hX; subst hvx; have HX := Aside0.mk hX; have HCX := Aside0.mk hcx; have HBN := Aside0.mk (pw_below_grown HBM.out _ HBM.out.size hg (fun k hk => by obtain ⟨b, hb1, hb2⟩ := HVM.out; rw [hb1] at hk; injection hk with hk; omega)); clear ho hb hg hat HM HBM HVM hX hcx; have ST3 : True := trivial)
        | (go_at_call 34; clear ST3; refine (HRW.out wn Ax Ac cx cc HX.out HCX.out (Kd.C_below HCf.out HBN.out) hcc).mono ?_; rintro e_ wo ⟨rfl, hs⟩; have HBO := Aside0.mk (below_then HBN.out HBN.out.size hs.out); have HSo := Aside0.mk (HSf.out.below HBO.out).1; clear hs; have ST4 : True := trivial)
        | (go_at_call 33; clear ST4; refine (count_go gs _ _ _ _ _ _ _ _ _ HSo.out).mono ?_; rintro e_ wq ⟨rfl, hs⟩; have HBQ_ := Aside0.mk (below_then HBO.out HBO.out.size hs); clear hs))
      go_ret
      exact ⟨rfl, below_step HEND.out HBQ_.out⟩
theorem earshotlaw13_FrontCuts.calls (a0_0 a0_1 a0_2 : Int) (a0_3 a0_4 : Bool) (A1 : Option Addr) (c1 : Nat) (l1 : List Int) (a2 : Int) (r : Bool) (w : World) (hG : GlobA w) (hr1 : Kd.C (Kd.int .i64) w A1 l1.length l1) (hc1 : l1.length ≤ c1) (h : earshotlaw13_FrontCuts.f a0_0 a0_1 a0_2 a0_3 a0_4 l1 a2 = some r) :
    Calls Tryd.prog 10 #[.agg #[.int .i64 a0_0, .int .i64 a0_1, .int .i64 a0_2, .bool a0_3, .bool a0_4], .slice A1 l1.length c1, .int .i64 a2] w fun e w' => e = .returned (.bool r) ∧ Below w.heap.size w w' := by
  unfold earshotlaw13_FrontCuts.f at h
  split at h
  case isFalse => cases h
  rename_i hz
  obtain rfl := Option.some.inj h
  simp only [Bool.and_eq_true, decide_eq_true_eq] at hz
  exact cuts_go A1 l1.length c1 _ _ _ _ _ _ l1 w hG rfl hr1 hc1 hz.1.1

/-- THE ONE PURE STATEMENT of earshotlaw13_FrontCuts: yours. -/
def earshotlaw13_FrontCuts.Pure : Prop := ∀ (a0_0 : Int) (a0_1 : Int) (a0_2 : Int) (a0_3 : Bool) (a0_4 : Bool) (l1 : List Int) (a2 : Int), (Lit.int .i64 a0_0).wf = true → (Lit.int .i64 a0_1).wf = true → (Lit.int .i64 a0_2).wf = true → l1.length ≤ maxLen → l1.length * 8 ≤ 140737488351232 → (∀ x ∈ l1, (Lit.int .i64 x).wf = true) → (Lit.int .i64 a2).wf = true → earshotlaw13_FrontCuts.f a0_0 a0_1 a0_2 a0_3 a0_4 l1 a2 = some true
theorem earshotlaw13_FrontCuts.walk (P : earshotlaw13_FrontCuts.Pure) (a0_0 : Int) (a0_1 : Int) (a0_2 : Int) (a0_3 : Bool) (a0_4 : Bool) (a1 : Option Addr) (len1 cap1 : Nat) (z1 : List Int) (a2 : Int) (w : World) (w0_0 : (Lit.int .i64 a0_0).wf = true) (w0_1 : (Lit.int .i64 a0_1).wf = true) (w0_2 : (Lit.int .i64 a0_2).wf = true) (w1 : (a1 = none ∧ len1 = 0 ∧ cap1 = 0 ∧ z1 = []) ∨ ∃ x, a1 = some x ∧ len1 ≤ cap1 ∧ cap1 ≤ maxLen ∧ z1.length = cap1 ∧ (∀ i, i < z1.length → w.cell? (x.add i) = some (.int .i64 (z1.getD i 0))) ∧ ∀ n ∈ z1, (Lit.int .i64 n).wf = true) (y1 : len1 * 8 ≤ 140737488351232) (w2 : (Lit.int .i64 a2).wf = true) (hG : GlobA w) :
    Calls Tryd.prog 10 #[.agg #[.int .i64 a0_0, .int .i64 a0_1, .int .i64 a0_2, .bool a0_3, .bool a0_4], .slice a1 len1 cap1, .int .i64 a2] w fun e w' => e = .returned (.bool true) ∧ Below w.heap.size w w' := by
  obtain ⟨l1, rfl, hr1, hm1, hw1, hc1⟩ := ReadsInt.ofRowC w1
  have h := P a0_0 a0_1 a0_2 a0_3 a0_4 l1 a2 w0_0 w0_1 w0_2 hm1 y1 hw1 w2
  refine (earshotlaw13_FrontCuts.calls a0_0 a0_1 a0_2 a0_3 a0_4 _ _ l1 a2 true w hG (Kd.C_of_reads (d := (0 : Int)) (h1 := fun _ => rfl) hr1) hc1 h).mono ?_
  rintro e w' ⟨rfl, hd⟩
  exact ⟨rfl, hd⟩

end Go.Proofs.YtmhacdnnnebpdaaDoor.PFrontCuts
