-- Written by a program of this work (wip/tools) for this claim; Lean checks it.
import Derived.Test.YtmhacdnnnebpdaaDoorPFrontStreamx19
namespace Go.Proofs.YtmhacdnnnebpdaaDoor.PFrontStream
open Go.RowKit Go.Proofs.YtmhacdnnnebpdaaDoorW.PrintWords Go.Proofs.YtmhacdnnnebpdaaDoorW.PrintLast Go.Proofs.YtmhacdnnnebpdaaDoorW.PrintMore
attribute [local go_sem] max2_int min2_int max_two min_two max_three min_three max_four min_four   -- for this text's walks alone
set_option linter.unusedVariables false
set_option linter.unusedSimpArgs false
def CRes (w0 W : World) (h : Nat) (xs : List Int) (e : Ending) (w' : World) : Prop :=
 ∃ A c, e = .returned (.slice A h c) ∧ h ≤ c ∧ Aside0 ((Kd.int .i64).C w' A h xs) ∧ Aside0 (Below w0.heap.size w0 w') ∧ Aside0 (Below W.heap.size W w')
theorem cres_of {w0 W w' : World} {h : Nat} {xs : List Int} {v : Value} {t b : Nat} {ok : Nat → Prop} (hB : Below w0.heap.size w0 W) (hR : (Kd.int .i64).R t w' b ok v xs) (hl : xs.length = h) (hb : Below W.heap.size W w') : CRes w0 W h xs (.returned v) w' := by
 subst hl
 obtain ⟨A, c, rfl, h1, h2⟩ := Kd.R_reads hR
 exact ⟨A, c, rfl, h1, ⟨h2⟩, ⟨below_step hB hb⟩, ⟨hb⟩⟩
theorem same_go (l : List Int) (hl : l.length ≤ 100000000) (d : Nat) : ∀ (k i : Nat), i ≤ l.length → l.length - i = d → d < k → earshotref04_Same.l0 k l l (i : Int) = some true := by
 induction d with
 | zero =>
   intro k i h0 hd hk
   obtain ⟨k, rfl⟩ : ∃ m, k = m + 1 := ⟨k - 1, by omega⟩
   simp only [earshotref04_Same.l0]
   rw [if_neg (by omega)]
 | succ d ih =>
   intro k i h0 hd hk
   obtain ⟨k, rfl⟩ : ∃ m, k = m + 1 := ⟨k - 1, by omega⟩
   simp only [earshotref04_Same.l0]
   have hw : wrap64 ((i : Int) + 1) = ((i + 1 : Nat) : Int) := by unfold wrap64; omega
   rw [if_pos (by omega), if_pos (by omega), if_pos (by omega), if_pos trivial, hw]
   exact ih k (i + 1) (by omega) (by omega) (by omega)
theorem same_f (l : List Int) (hl : l.length ≤ 100000000) : earshotref04_Same.f (l.length + 1) l l = some true := by
 unfold earshotref04_Same.f
 rw [if_pos rfl]
 exact same_go l hl l.length _ 0 (by omega) (by omega) (by omega)
theorem same_c {w0 : World} (A1 : Option Addr) (h c1 : Nat) (A2 : Option Addr) (c2 : Nat) (l1 l2 : List Int) (W : World) (hB : Below w0.heap.size w0 W) (hl : l1.length = h) (he : l1 = l2) (hC1 : (Kd.int .i64).C W A1 h l1) (hC2 : (Kd.int .i64).C W A2 h l2) (h1 : h ≤ c1) (h2 : h ≤ c2) (hh : h ≤ 1000000) :
  Calls Tryd.prog 16 #[.slice A1 h c1, .slice A2 h c2] W fun e w' => e = .returned (.bool true) ∧ Aside0 (Below w0.heap.size w0 w') ∧ Aside0 (Below W.heap.size W w') := by
 subst he
 subst hl
 exact (earshotref04_Same.calls _ A1 c1 l1 A2 c2 l1 true W hC1 h1 hC2 h2 (same_f l1 (by omega))).mono fun e w' ⟨a, ⟨n, b⟩⟩ => by
  subst b
  exact ⟨a, ⟨pw_below_drewN hB n⟩, ⟨pw_below_drewN (Below.refl _ _) n⟩⟩
theorem zeros_c (X : World) (g n : Nat) (hg : g = X.heap.size) (hn : n ≤ 1000000) : (Kd.int .i64).C (X.alloc (.cells (madeCells #[.int .i64 0] n) 3)) (some ⟨g, 0, none⟩) n (List.replicate n 0) := by
 subst hg
 have h := own_made X X.heap.size 3 .i64 n (Nat.le_refl _) (by omega)
 have hR := Kd.R_of_own (enc := Value.int .i64) (h1 := fun _ => rfl) (ok := fun _ => True) (xs := List.replicate n 0) (by rw [List.length_replicate]; exact h) (fun _ _ => trivial)
 obtain ⟨A, c, he, _, h2⟩ := Kd.R_reads hR
 rw [List.length_replicate] at he h2
 injection he with e1 e2 e3
 rw [e1]
 exact h2
theorem quiet_add {P : Program} {f : FuncId} {args : Array Value} {W : World} {K x : Nat} {v : Value} (h : Calls P f args (W.drewN (K + x)) fun e w' => e = .returned v ∧ Drawn0 (W.drewN (K + x)) w') :
  Calls P f args (W.drewN (K + x)) fun e w'' => e = .returned v ∧ ∃ n, w'' = W.drewN (K + n) :=
 h.mono fun _ _ ⟨he, ⟨m, hm⟩⟩ => ⟨he, x + m, by rw [hm, World.drewN_drewN, Nat.add_assoc]⟩
theorem quiet_d {P : Program} {f : FuncId} {args : Array Value} {W : World} {x : Nat} {v : Value} (h : Calls P f args (W.drewN x) fun e w' => e = .returned v ∧ Drawn0 (W.drewN x) w') :
  Calls P f args (W.drewN x) fun e w'' => e = .returned v ∧ ∃ n, w'' = W.drewN n :=
 h.mono fun _ _ ⟨he, ⟨m, hm⟩⟩ => ⟨he, x + m, by rw [hm, World.drewN_drewN]⟩
def cutA (s h b c p : Int) (r : List Int) : List (List Int) × List Int := cutN s h b c p (r.length + 1) r
theorem cutA_yes {s h b c p : Int} (hs : 1 ≤ s.toNat) (hh : 1 ≤ h.toNat) (r : List Int) (hr : s.toNat ≤ r.length) :
  cutA s h b c p r = (frameF s h b c p (r.take s.toNat) :: (cutA s h b c p (r.drop h.toNat)).1, (cutA s h b c p (r.drop h.toNat)).2) := by
 unfold cutA
 rw [cutN_yes _ _ _ _ _ _ _ hr, cutN_more s h b c p hs hh ((r.drop h.toNat).length + 1) r.length (r.drop h.toNat) (by omega) (by rw [List.length_drop]; omega)]
theorem cutA_no {s h b c p : Int} (r : List Int) (hr : r.length < s.toNat) : cutA s h b c p r = ([], r) := cutN_no _ _ _ _ _ _ _ hr
theorem cutA_app {s h b c p : Int} (hs : 1 ≤ s.toNat) (hh : 1 ≤ h.toNat) (hhs : h.toNat ≤ s.toNat) (ys : List Int) : ∀ (n : Nat) (r : List Int), r.length ≤ n →
  cutA s h b c p (r ++ ys) = ((cutA s h b c p r).1 ++ (cutA s h b c p ((cutA s h b c p r).2 ++ ys)).1, (cutA s h b c p ((cutA s h b c p r).2 ++ ys)).2)
 | n, r, hn => by
   by_cases hr : r.length < s.toNat
   · rw [cutA_no r hr]; rfl
   ·
    have hr2 : s.toNat ≤ r.length := by omega
    match n, hn with
    | 0, hn => omega
    | n + 1, hn =>
      have ih := cutA_app (s := s) (h := h) (b := b) (c := c) (p := p) hs hh hhs ys n (r.drop h.toNat) (by rw [List.length_drop]; omega)
      rw [cutA_yes hs hh r hr2, cutA_yes hs hh (r ++ ys) (by rw [List.length_append]; omega), List.take_append_of_le_length hr2, List.drop_append_of_le_length (by omega), ih]
      rfl
theorem cutA_rest {s h b c p : Int} (hs : 1 ≤ s.toNat) (hh : 1 ≤ h.toNat) : ∀ (n : Nat) (r : List Int), r.length ≤ n → (cutA s h b c p r).2.length < s.toNat
 | n, r, hn => by
   by_cases hr : r.length < s.toNat
   · rw [cutA_no r hr]; exact hr
   ·
    match n, hn with
    | 0, hn => omega
    | n + 1, hn =>
      rw [cutA_yes hs hh r (by omega)]
      exact cutA_rest hs hh n (r.drop h.toNat) (by rw [List.length_drop]; omega)
def framesI (s h n : Int) : Int := if n < s then 0 else (n - s) / h + 1
def neededI (s h n : Int) : Int := n - framesI s h n * h
theorem framesI_step {s h n : Int} (hh : 1 ≤ h) (hhs : h ≤ s) (hn : s ≤ n) : framesI s h n = framesI s h (n - h) + 1 := by
 unfold framesI
 rw [if_neg (by omega)]
 by_cases c : n - h < s
 · rw [if_pos c, Int.ediv_eq_zero_of_lt (by omega) (by omega)]
 ·
  rw [if_neg c]
  have e : n - s = (n - h - s) + 1 * h := by omega
  rw [e, Int.add_mul_ediv_right _ _ (by omega)]
theorem framesI_nn {s h n : Int} (hh : 1 ≤ h) : 0 ≤ framesI s h n := by
 unfold framesI
 split
 · omega
 ·
  have := Int.ediv_nonneg (a := n - s) (b := h) (by omega) (by omega)
  omega
theorem framesI_mono1 {s h n : Int} (hh : 1 ≤ h) (hs : 1 ≤ s) : framesI s h (n + 1) ≤ framesI s h n + 1 ∧ framesI s h n ≤ framesI s h (n + 1) := by
 unfold framesI
 by_cases c : n + 1 < s
 · rw [if_pos c, if_pos (by omega)]; omega
 ·
  rw [if_neg c]
  by_cases d : n < s
  · rw [if_pos d, show n + 1 - s = 0 by omega, Int.zero_ediv]; omega
  ·
   rw [if_neg d]
   have h1 : (n + 1 - s) / h ≤ (n - s + 1 * h) / h := Int.ediv_le_ediv (by omega) (by omega)
   rw [Int.add_mul_ediv_right _ _ (by omega)] at h1
   have h2 : (n - s) / h ≤ (n + 1 - s) / h := Int.ediv_le_ediv (by omega) (by omega)
   omega
theorem framesI_mul {s h n : Int} (hs : 0 ≤ s) (hh : 1 ≤ h) (hhs : h ≤ s) (h0 : 0 ≤ n) : 0 ≤ framesI s h n * h ∧ framesI s h n * h ≤ n := by
 unfold framesI
 split
 · omega
 ·
  rename_i hn
  have a : 0 ≤ (n - s) / h := Int.ediv_nonneg (by omega) (by omega)
  have b : (n - s) / h * h ≤ n - s := Int.ediv_mul_le _ (by omega)
  have e : ((n - s) / h + 1) * h = (n - s) / h * h + h := by rw [Int.add_mul, Int.one_mul]
  have m : 0 ≤ (n - s) / h * h := Int.mul_nonneg a (by omega)
  omega
theorem cutA_what {s h b c p : Int} (hh : 1 ≤ h) (hhs : h ≤ s) : ∀ (n : Nat) (r : List Int), r.length ≤ n →
  ((cutA s h b c p r).1.length : Int) = framesI s h (r.length : Int) ∧ (cutA s h b c p r).2 = r.drop ((cutA s h b c p r).1.length * h.toNat) ∧
    ∀ i, i < (cutA s h b c p r).1.length → (cutA s h b c p r).1.getD i [] = frameF s h b c p ((r.drop (i * h.toNat)).take s.toNat)
 | n, r, hn => by
   by_cases hr : r.length < s.toNat
   ·
    rw [cutA_no r hr]
    refine ⟨?_, by simp, fun i hi => by simp at hi⟩
    unfold framesI
    rw [if_pos (by omega)]; rfl
   ·
    match n, hn with
    | 0, hn => omega
    | n + 1, hn =>
      obtain ⟨i1, i2, i3⟩ := cutA_what (s := s) (h := h) (b := b) (c := c) (p := p) hh hhs n (r.drop h.toNat) (by rw [List.length_drop]; omega)
      rw [cutA_yes (by omega) (by omega) r (by omega)]
      generalize cutA s h b c p (r.drop h.toNat) = q at i1 i2 i3
      have hl : ((r.drop h.toNat).length : Int) = (r.length : Int) - h := by rw [List.length_drop]; omega
      rw [hl] at i1
      refine ⟨?_, ?_, ?_⟩
      · rw [framesI_step hh hhs (show s ≤ (r.length : Int) by omega), ← i1, List.length_cons]; omega
      ·
       show q.2 = _
       rw [i2, List.drop_drop, List.length_cons, Nat.add_mul, Nat.one_mul, Nat.add_comm]
      ·
       intro i hi
       cases i with
       | zero => rw [Nat.zero_mul, List.drop_zero]; rfl
       | succ i =>
         rw [List.length_cons] at hi
         have := i3 i (by omega)
         rw [List.drop_drop] at this
         rw [List.getD_cons_succ, this, Nat.add_mul, Nat.one_mul, Nat.add_comm]
theorem flatL_app (p : Int) : ∀ (last : Int) (xs ys : List Int), flatL p last (xs ++ ys) = flatL p last xs ++ flatL p (lastL last xs) ys
 | _, [], _ => rfl
 | last, x :: xs, ys => by
   show preS p last x :: flatL p x (xs ++ ys) = _
   rw [flatL_app p x xs ys]; rfl
theorem lastL_app : ∀ (last : Int) (xs ys : List Int), lastL last (xs ++ ys) = lastL (lastL last xs) ys
 | _, [], _ => rfl
 | _, x :: xs, ys => lastL_app x xs ys
def frsL (s h b c p : Int) (l : List Int) : List (List Int) := (cutA s h b c p (flatL p 0 l)).1
def rssL (s h b c p : Int) (l : List Int) : List Int := (cutA s h b c p (flatL p 0 l)).2
theorem cut_step {s h b c p : Int} (hs : 1 ≤ s.toNat) (hh : 1 ≤ h.toNat) (hhs : h.toNat ≤ s.toNat) (L xs : List Int) :
  frsL s h b c p (L ++ xs) = frsL s h b c p L ++ (cutA s h b c p (rssL s h b c p L ++ flatL p (lastL 0 L) xs)).1 ∧ rssL s h b c p (L ++ xs) = (cutA s h b c p (rssL s h b c p L ++ flatL p (lastL 0 L) xs)).2 := by
 unfold frsL rssL
 rw [flatL_app, cutA_app hs hh hhs _ _ _ (Nat.le_refl _)]
 exact ⟨rfl, rfl⟩
theorem frsL_len {s h b c p : Int} (hh : 1 ≤ h) (hhs : h ≤ s) (l : List Int) : ((frsL s h b c p l).length : Int) = framesI s h (l.length : Int) := by
 have := (cutA_what (s := s) (h := h) (b := b) (c := c) (p := p) hh hhs _ (flatL p 0 l) (Nat.le_refl _)).1
 rw [flatL_length] at this
 exact this
theorem rssL_eq {s h b c p : Int} (hh : 1 ≤ h) (hhs : h ≤ s) (l : List Int) : rssL s h b c p l = (flatL p 0 l).drop ((framesI s h (l.length : Int)).toNat * h.toNat) := by
 have h1 := (cutA_what (s := s) (h := h) (b := b) (c := c) (p := p) hh hhs _ (flatL p 0 l) (Nat.le_refl _)).2.1
 have h2 := frsL_len (s := s) (h := h) (b := b) (c := c) (p := p) hh hhs l
 unfold rssL
 rw [h1, show (cutA s h b c p (flatL p 0 l)).1.length = (framesI s h (l.length : Int)).toNat by unfold frsL at h2; omega]
theorem frsL_at {s h b c p : Int} (hh : 1 ≤ h) (hhs : h ≤ s) (l : List Int) (i : Nat) (hi : i < (frsL s h b c p l).length) : (frsL s h b c p l).getD i [] = frameF s h b c p (((flatL p 0 l).drop (i * h.toNat)).take s.toNat) :=
 (cutA_what (s := s) (h := h) (b := b) (c := c) (p := p) hh hhs _ (flatL p 0 l) (Nat.le_refl _)).2.2 i hi
theorem rssL_len {s h b c p : Int} (hs : 1 ≤ s.toNat) (hh : 1 ≤ h.toNat) (l : List Int) : (rssL s h b c p l).length < s.toNat := cutA_rest hs hh _ _ (Nat.le_refl _)
theorem one_more {s h b c p : Int} (hh : 1 ≤ h) (hhs : h ≤ s) (L : List Int) (x : Int) (T : List (List Int)) (hT : frsL s h b c p (L ++ [x]) = frsL s h b c p L ++ T) : T.length ≤ 1 := by
 have h1 := frsL_len (s := s) (h := h) (b := b) (c := c) (p := p) hh hhs (L ++ [x])
 have h2 := frsL_len (s := s) (h := h) (b := b) (c := c) (p := p) hh hhs L
 have h3 := framesI_mono1 (s := s) (h := h) (n := (L.length : Int)) hh (by omega)
 rw [hT, List.length_append, List.length_append] at h1
 have e : (((L.length + [x].length : Nat)) : Int) = (L.length : Int) + 1 := by simp
 rw [e] at h1
 omega
theorem any_app {l m : List Int} (h1 : l.any badPU = false) (h2 : m.any badPU = false) : (l ++ m).any badPU = false := by rw [List.any_append, h1, h2]; rfl
theorem last_in {l : List Int} (h : l.any badPU = false) : -32768 ≤ lastL 0 l ∧ lastL 0 l ≤ 32767 := lastL_in (by omega) (push_ok h)
theorem push_st (A : Option Addr) (c n g b0 N Hp : Nat) (b cf p : Int) (L xs : List Int) (T : List (List Int)) (v : Value) (w : World) (hG : GlobA w) (hb0 : 1 ≤ b0) (hbw : b0 ≤ w.heap.size)
  (hS : StrAt w g b0 (N : Int) (Hp : Int) b cf p (L.length : Int) (lastL 0 L) v (rssL (N : Int) (Hp : Int) b cf p L)) (hl : xs.length = n) (hC : (Kd.int .i64).C w A n xs) (hA : ∀ ad, A = some ad → 0 < n → ad.block ≠ g ∧ some ad.block ≠ v.ownBlock)
  (hx : xs.any badPU = false) (hLx : L.any badPU = false) (hp : 0 ≤ p ∧ p < 32768) (hN : 0 < N) (hH1 : 1 ≤ Hp) (hHN : Hp ≤ N) (hN64 : N ≤ 64) (hn : n ≤ 100000) (hLn : L.length ≤ 100000)
  (hT : frsL (N : Int) (Hp : Int) b cf p (L ++ xs) = frsL (N : Int) (Hp : Int) b cf p L ++ T) :
  Calls Tryd.prog 31 #[.pointer (some ⟨g, 0, none⟩), .slice A n c] w fun e w' => ∃ A1 c1 v', e = .returned (.tuple #[.slice A1 T.length c1, .int .i64 0]) ∧ T.length ≤ c1 ∧ Aside0 (StrAt w' g b0 (N : Int) (Hp : Int) b cf p ((L ++ xs).length : Int) (lastL 0 (L ++ xs)) v' (rssL (N : Int) (Hp : Int) b cf p (L ++ xs))) ∧ Aside0 (R2 w' w.heap.size (fun q => some q ≠ v'.ownBlock) (.slice A1 T.length c1) T) ∧ Aside0 (Keeps w w' g v.ownBlock) ∧ Aside0 (∀ k, v'.ownBlock = some k → some k = v.ownBlock ∨ w.heap.size ≤ k) := by
 have hsN : (N : Int).toNat = N := by omega
 have hhN : (Hp : Int).toNat = Hp := by omega
 obtain ⟨k1, k2⟩ := cut_step (s := (N : Int)) (h := (Hp : Int)) (b := b) (c := cf) (p := p) (by omega) (by omega) (by omega) L xs
 have hT1 : (cutA (N : Int) (Hp : Int) b cf p (rssL (N : Int) (Hp : Int) b cf p L ++ flatL p (lastL 0 L) xs)).1 = T := by
  rw [hT] at k1
  exact (List.append_cancel_left k1).symm
 have hrl := rssL_len (s := (N : Int)) (h := (Hp : Int)) (b := b) (c := cf) (p := p) (by omega) (by omega) L
 refine (push_go A c n g b0 N Hp (N : Int) (Hp : Int) b cf p (L.length : Int) (lastL 0 L) ((L ++ xs).length : Int) (lastL 0 (L ++ xs)) (rssL (N : Int) (Hp : Int) b cf p L) xs _ (rssL (N : Int) (Hp : Int) b cf p (L ++ xs)) T v w hG hb0 hbw hS hl hC hA hx (last_in hLx) hp rfl hN rfl hH1 hHN hN64 hn (by omega) (by omega) (by omega) rfl hT1 k2.symm (by rw [List.length_append]; omega) (lastL_app 0 L xs).symm).mono ?_
 rintro e w' ⟨vo, v', rfl, h1, h2, h3, h4⟩
 obtain ⟨A1, c1, hvo, hc1, _⟩ := Kd.R_reads h2
 subst hvo
 exact ⟨A1, c1, v', rfl, hc1, ⟨h1⟩, ⟨h2⟩, ⟨h3⟩, ⟨h4⟩⟩
theorem keep_R {α : Type} {d : Kd α} {e base g : Nat} {W W' : World} {v v' va : Value} {T : List α} (h : d.R e W base (fun q => q ≠ g ∧ some q ≠ v.ownBlock) va T) (hK : Keeps W W' g v.ownBlock) (hv : ∀ k, v'.ownBlock = some k → some k = v.ownBlock ∨ W.heap.size ≤ k) :
  d.R e W' base (fun q => q ≠ g ∧ some q ≠ v'.ownBlock) va T := by
 have h1 := Kd.R_mono (Kd.R_bound h) (ok' := fun q => (q ≠ g ∧ some q ≠ v.ownBlock) ∧ q < W.heap.size) (fun q hq => ⟨hq.1, hq.2.2.1⟩)
 refine Kd.R_mono (hK.R h1 (fun q hq => ⟨hq.1.1, hq.1.2⟩)) (fun q hq => ⟨hq.1.1, fun e_ => ?_⟩)
 rcases hv q e_.symm with h2 | h2
 · exact hq.1.2 h2
 · omega
theorem fresh_R {α : Type} {d : Kd α} {e base g : Nat} {W : World} {v' va : Value} {T : List α} (h : d.R e W base (fun q => some q ≠ v'.ownBlock) va T) (hg : g < base) : d.R e W base (fun q => q ≠ g ∧ some q ≠ v'.ownBlock) va T :=
 Kd.R_mono (Kd.R_bound h) (fun q hq => ⟨by omega, hq.1⟩)
theorem wide_R {α : Type} {d : Kd α} {e base g : Nat} {W W' : World} {v va : Value} {T : List α} (h : d.R e W' base (fun _ => True) va T) (hb : W.heap.size ≤ base) (hg : g < W.heap.size) (hv : ∀ k, v.ownBlock = some k → k < W.heap.size) : d.R e W' base (fun q => q ≠ g ∧ some q ≠ v.ownBlock) va T :=
 Kd.R_mono (Kd.R_bound h) (fun q hq => ⟨by omega, fun e_ => by have := hv q e_.symm; omega⟩)
theorem st_new {w : World} {g b0 : Nat} {s h b c p : Int} (hs : 1 ≤ s) (H : StrAt w g b0 s h b c p 0 0 (.slice none 0 0) []) : StrAt w g b0 s h b c p (([] : List Int).length : Int) (lastL 0 []) (.slice none 0 0) (rssL s h b c p []) := by
 have e : rssL s h b c p [] = [] := by
  unfold rssL
  rw [show flatL p 0 [] = [] from rfl, cutA_no _ (by show 0 < s.toNat; omega)]
 rw [e]
 exact H
def soundL (l : List Int) : List Int := (l.take 90).map fun x => IntKind.i16.wrap x
theorem i16_in (x : Int) : -32768 ≤ IntKind.i16.wrap x ∧ IntKind.i16.wrap x ≤ 32767 := by
 have h : IntKind.i16.wrap x = (x + 32768) % 65536 - 32768 := by
  simp only [IntKind.wrap, IntKind.bits, IntKind.signed]
  first | rfl | (simp; omega) | omega
 have h1 := Int.emod_nonneg (x + 32768) (show (65536 : Int) ≠ 0 by decide)
 have h2 := Int.emod_lt_of_pos (x + 32768) (show (0 : Int) < 65536 by decide)
 omega
theorem soundL_len (l : List Int) : (soundL l).length ≤ 90 := by
 simp only [soundL, List.length_map, List.length_take]; omega
theorem soundL_ok (l : List Int) : (soundL l).any badPU = false := by
 rw [List.any_eq_false]
 intro y hy
 simp only [soundL, List.mem_map] at hy
 obtain ⟨x, _, rfl⟩ := hy
 have := i16_in x
 unfold badPU
 rw [decide_eq_true (by omega), decide_eq_true (by omega)]
 decide
theorem rsound_l0 (l : List Int) (hl : l.length ≤ 4000000000000000000) : ∀ (d n k : Nat), n + d = (soundL l).length → d + 1 ≤ k → earshotlaw13_sound.l0 k l ((soundL l).take n) (n : Int) = some (soundL l)
 | 0, n, k, hn, hk => by
   obtain ⟨k, rfl⟩ : ∃ q, k = q + 1 := ⟨k - 1, by omega⟩
   rw [List.take_of_length_le (by omega)]
   simp only [soundL, List.length_map, List.length_take] at hn
   rw [earshotlaw13_sound.l0]
   by_cases h1 : (n : Int) < (l.length : Int)
   · rw [if_pos h1, if_neg (by omega)]
   · rw [if_neg h1]
 | d + 1, n, k, hn, hk => by
   obtain ⟨k, rfl⟩ : ∃ q, k = q + 1 := ⟨k - 1, by omega⟩
   have hlt : n < (soundL l).length := by omega
   have hn2 := hlt
   simp only [soundL, List.length_map, List.length_take] at hn2
   have e1 : wrap64 ((n : Int) + 1) = ((n + 1 : Nat) : Int) := by unfold wrap64; omega
   have e2 : (soundL l).take (n + 1) = (soundL l).take n ++ [wrap64 (IntKind.i16.wrap (l.getD n 0))] := by
    rw [List.take_add_one, List.getElem?_eq_getElem hlt]
    have hw := i16_in (l.getD n 0)
    have : (soundL l)[n] = wrap64 (IntKind.i16.wrap (l.getD n 0)) := by
     rw [show wrap64 (IntKind.i16.wrap (l.getD n 0)) = IntKind.i16.wrap (l.getD n 0) by unfold wrap64; omega]
     simp only [soundL, List.getElem_map, List.getElem_take]
     rw [List.getD_eq_getElem?_getD, List.getElem?_eq_getElem (by omega)]
     rfl
    rw [this]; rfl
   rw [earshotlaw13_sound.l0, if_pos (by omega), if_pos (by omega), if_pos (by omega), if_pos (by rw [List.length_take]; omega), show rd l (n : Int) = l.getD n 0 by unfold rd; rw [Int.toNat_natCast], ← e2, e1]
   exact rsound_l0 l hl d (n + 1) k (by omega) (by omega)
theorem rsound_f (l : List Int) (hl : l.length ≤ 4000000000000000000) (k : Nat) (hk : 91 ≤ k) : earshotlaw13_sound.f k l = some (soundL l) := by
 have h := rsound_l0 l hl (soundL l).length 0 k (by omega) (by have := soundL_len l; omega)
 exact h
theorem rdiv_f {x n : Int} (hx : -9223372036854775808 ≤ x ∧ x ≤ 9223372036854775807) (hn : 1 ≤ n ∧ n ≤ 4611686018427387904) : earshotref02_Div.f x n = some (divR x n) := by
 have hn2 : -9223372036854775808 ≤ n ∧ n ≤ 9223372036854775807 := by omega
 have r0 := Int.emod_nonneg x (show n ≠ 0 by omega)
 have r1 := Int.emod_lt_of_pos x (show 0 < n by omega)
 unfold earshotref02_Div.f divR
 rw [if_neg (by omega), if_neg (by omega), refquot_f hx hn2 hn.1, bsome, refrest_f hx hn2 hn.1, bsome]
 have e : wrap64 (n - x % n) = n - x % n := by unfold wrap64; omega
 rw [e]
 by_cases h : x % n ≥ n - x % n
 ·
  rw [if_pos h, if_pos h]
  congr 1
  have q0 : -9223372036854775808 ≤ x / n := (Int.le_ediv_iff_mul_le (by omega)).2 (by omega)
  have q1 : x / n < 9223372036854775807 := by
   have hd := Int.mul_ediv_add_emod x n
   rcases Int.lt_or_le (x / n) 9223372036854775807 with h' | h'
   · exact h'
   ·
    have := Int.mul_le_mul_of_nonneg_right hn.1 (show 0 ≤ x / n by omega)
    omega
  unfold wrap64; omega
 · rw [if_neg h, if_neg h]
theorem rpower : ∀ n : Fin 63, earshotref02_power.f 70 ((n.1 : Nat) : Int) = some ((2 ^ n.1 : Nat) : Int) := by decide +kernel
theorem rhalf_f {x : Int} (hx : -9223372036854775808 ≤ x ∧ x ≤ 9223372036854775807) (n : Nat) (hn : n ≤ 62) : ∀ k, 71 ≤ k → earshotref02_Half.f k x (n : Int) = some (divR x ((2 ^ n : Nat) : Int)) := by
 intro k hk
 obtain ⟨d, rfl⟩ := Nat.exists_eq_add_of_le hk
 clear hk
 induction d with
 | zero =>
   have hp := rpower ⟨n, by omega⟩
   have hle : 2 ^ n ≤ 2 ^ 62 := Nat.pow_le_pow_right (by decide) hn
   have hpos : 0 < 2 ^ n := Nat.two_pow_pos n
   unfold earshotref02_Half.f
   rw [if_neg (by omega), decide_eq_false (by omega), earshotref02_Half.j0, if_neg (by decide), hp, bsome]
   generalize 2 ^ n = p at *
   rw [rdiv_f hx (by omega), bsome]
 | succ d ih => exact earshotref02_Half.mono _ _ _ _ ih
theorem rframes_f (s h b c p n : Int) (hs : 0 ≤ s ∧ s ≤ 1000) (hh : 1 ≤ h) (h0 : 0 ≤ n) (h1 : n ≤ 4611686018427387904) : earshotref13_Frames.f s h b c p n = some (framesI s h n) := by
 unfold earshotref13_Frames.f framesI
 by_cases c1 : n < s
 · rw [if_pos c1, if_pos c1]
 ·
  rw [if_neg c1, if_neg c1, if_neg (by omega)]
  have e1 : wrap64 (n - s) = n - s := by unfold wrap64; omega
  have a0 : 0 ≤ (n - s) / h := Int.ediv_nonneg (by omega) (by omega)
  have a1 : (n - s) / h ≤ n - s := Int.ediv_le_self _ (by omega)
  rw [e1, Int.tdiv_eq_ediv_of_nonneg (by omega)]
  generalize (n - s) / h = q at a0 a1
  rw [show wrap64 q = q by unfold wrap64; omega, show wrap64 (q + 1) = q + 1 by unfold wrap64; omega]
theorem rflat_l0 (s h b c p : Int) (l : List Int) (hl : l.length ≤ 1000) (hok : ∀ x ∈ l, -32768 ≤ x ∧ x ≤ 32767) (hp : 0 ≤ p ∧ p < 32768) : ∀ (d n k : Nat), n + d = l.length → 100 + d ≤ k →
  earshotref13_Flat.l0 k l (flatL p 0 (l.take n)) (lastL 0 (l.take n)) (n : Int) s h b c p = some (flatL p 0 l)
 | 0, n, k, hn, hk => by
   obtain ⟨k, rfl⟩ : ∃ q, k = q + 1 := ⟨k - 1, by omega⟩
   rw [List.take_of_length_le (by omega), earshotref13_Flat.l0, if_neg (by omega)]
 | d + 1, n, k, hn, hk => by
   obtain ⟨k, rfl⟩ : ∃ q, k = q + 1 := ⟨k - 1, by omega⟩
   have e1 : wrap64 ((n : Int) + 1) = ((n + 1 : Nat) : Int) := by unfold wrap64; omega
   have hx : -32768 ≤ l.getD n 0 ∧ l.getD n 0 ≤ 32767 := by
    rw [List.getD_eq_getElem?_getD, List.getElem?_eq_getElem (by omega)]
    exact hok _ (List.getElem_mem _)
   have hlb : -32768 ≤ lastL 0 (l.take n) ∧ lastL 0 (l.take n) ≤ 32767 := lastL_in (by omega) (fun z hz => hok z (List.mem_of_mem_take hz))
   have hps := pre_small hp hlb
   have e2 : wrap64 (p * lastL 0 (l.take n)) = p * lastL 0 (l.take n) := by
    generalize p * lastL 0 (l.take n) = q at hps
    unfold wrap64; omega
   have e3 := rhalf_f (x := p * lastL 0 (l.take n)) ⟨by omega, by omega⟩ 15 (by omega) k (by omega)
   rw [show ((2 ^ 15 : Nat) : Int) = 32768 by decide, show ((15 : Nat) : Int) = 15 by rfl] at e3
   have e4 : wrap64 (l.getD n 0 - divR (p * lastL 0 (l.take n)) 32768) = preS p (lastL 0 (l.take n)) (l.getD n 0) := by
    unfold preS
    rw [divR_15]
    unfold wrap64; omega
   have e5 : flatL p 0 (l.take (n + 1)) = flatL p 0 (l.take n) ++ [preS p (lastL 0 (l.take n)) (l.getD n 0)] := by rw [take_snoc l n (by omega), flatL_snoc]
   have e6 : lastL 0 (l.take (n + 1)) = l.getD n 0 := by rw [take_snoc l n (by omega), lastL_snoc]
   rw [earshotref13_Flat.l0, if_pos (by omega), if_pos (by omega), e2, e3, bsome, if_pos (by rw [flatL_length, List.length_take]; omega), show rd l (n : Int) = l.getD n 0 by unfold rd; rw [Int.toNat_natCast], e4, ← e5, ← e6, e1]
   exact rflat_l0 s h b c p l hl hok hp d (n + 1) k (by omega) (by omega)
theorem rflat_f (s h b c p : Int) (l : List Int) (hl : l.length ≤ 1000) (hok : l.any badPU = false) (hp : 0 ≤ p ∧ p < 32768) (k : Nat) (hk : 1200 ≤ k) : earshotref13_Flat.f k s h b c p l = some (flatL p 0 l) :=
 rflat_l0 s h b c p l hl (push_ok hok) hp l.length 0 k (by omega) (by omega)
theorem ref_bits_l0 : ∀ (f k x n : Nat), x < 2 ^ f → n + f ≤ 64 → f < k → earshotref03_Bits.l0 k (x : Int) (n : Int) = some ((n + Lib.bitLenAux f x : Nat) : Int)
 | 0, k, x, n, h, _, hk => by
   obtain ⟨k, rfl⟩ : ∃ k', k = k' + 1 := ⟨k - 1, by omega⟩
   have : x = 0 := by simpa using h
   subst this
   simp only [earshotref03_Bits.l0]
   rw [if_neg (by decide)]
   simp [Lib.bitLenAux]
 | f + 1, k, x, n, h, hf, hk => by
   obtain ⟨k, rfl⟩ : ∃ k', k = k' + 1 := ⟨k - 1, by omega⟩
   simp only [earshotref03_Bits.l0]
   by_cases h0 : x = 0
   ·
    subst h0
    rw [if_neg (by decide), bla_zero]
    simp
   ·
    have e1 : Lib.bitLenAux (f + 1) x = 1 + Lib.bitLenAux f (x / 2) := by
     show (if x = 0 then 0 else 1 + Lib.bitLenAux f (x / 2)) = _
     rw [if_neg h0]
    have hx64 : x < 2 ^ 64 := Nat.lt_of_lt_of_le h (Nat.pow_le_pow_right (by decide) (by omega))
    rw [Nat.pow_succ] at h
    have hlt : x / 2 < 2 ^ f := by omega
    clear h
    have e2 : IntKind.u64.wrap (Int.tdiv (x : Int) 2) = ((x / 2 : Nat) : Int) := by
     rw [Int.tdiv_eq_ediv_of_nonneg (by omega), IntKind.wrap_u64]; clear hlt; omega
    have e3 : wrap64 ((n : Int) + 1) = ((n + 1 : Nat) : Int) := by clear hlt; unfold wrap64; omega
    rw [if_pos (by clear hlt; omega), e2, e3, e1]
    rw [ref_bits_l0 f k (x / 2) (n + 1) hlt (by omega) (by omega), Nat.add_assoc]
theorem ref_bits_some {x k : Nat} (h : x < 2 ^ 64) (hk : 65 ≤ k) : earshotref03_Bits.f k (x : Int) = some ((Lib.bitLen x : Nat) : Int) := by
 unfold earshotref03_Bits.f Lib.bitLen
 have := ref_bits_l0 64 k x 0 h (by omega) (by omega)
 rw [Nat.zero_add] at this
 exact this
theorem ref_log_l0 : ∀ (j k m : Nat) (b : Int), 2147483648 ≤ m * 2 ^ j → (j = 0 ∨ m * 2 ^ j < 4294967296) → earshotref03_Log.l0 (k + j + 1) b (m : Int) = earshotref03_Log.l1 (k + 0) b ((m * 2 ^ j : Nat) : Int)
 | 0, k, m, b, h0, _ => by
   rw [Nat.pow_zero, Nat.mul_one] at h0 ⊢
   rw [earshotref03_Log.l0, if_neg (by omega)]; rfl
 | j + 1, k, m, b, h0, h1 => by
   have h1 : m * 2 ^ (j + 1) < 4294967296 := by rcases h1 with h | h; cases h; exact h
   have e : m * 2 ^ (j + 1) = (m * 2) * 2 ^ j := by rw [Nat.pow_succ, Nat.mul_assoc, Nat.mul_comm 2]
   have hp : 0 < 2 ^ j := Nat.two_pow_pos j
   rw [e] at h0 h1 ⊢
   have hm : m * 2 < 4294967296 := Nat.lt_of_le_of_lt (Nat.le_mul_of_pos_right _ hp) h1
   have e2 : IntKind.u64.wrap ((m : Int) * 2) = ((m * 2 : Nat) : Int) := by rw [IntKind.wrap_u64]; clear h0 h1 hp e; omega
   rw [← ref_log_l0 j k (m * 2) b h0 (Or.inr h1)]
   show earshotref03_Log.l0 ((k + j + 1) + 1) b (m : Int) = _
   rw [earshotref03_Log.l0, if_pos (by clear h0 h1 hp e; omega), e2]
theorem ref_log_l1 : ∀ (j k m : Nat) (b : Int), m < 2 ^ 64 → 2147483648 ≤ m / 2 ^ j → m / 2 ^ j < 4294967296 → earshotref03_Log.l1 (k + j + 1) b (m : Int) = earshotref03_Log.l2 (k + 0) b ((m / 2 ^ j : Nat) : Int) 0 0
 | 0, k, m, b, hm, h0, h1 => by
   rw [Nat.pow_zero, Nat.div_one] at h0 h1 ⊢
   rw [earshotref03_Log.l1, if_neg (by omega)]; rfl
 | j + 1, k, m, b, hm, h0, h1 => by
   have e : m / 2 ^ (j + 1) = (m / 2) / 2 ^ j := by rw [Nat.pow_succ, Nat.mul_comm, Nat.div_div_eq_div_mul]
   rw [e] at h0 h1 ⊢
   have hle : m / 2 / 2 ^ j ≤ m / 2 := Nat.div_le_self _ _
   have e2 : IntKind.u64.wrap (Int.tdiv (m : Int) 2) = ((m / 2 : Nat) : Int) := by
    rw [Int.tdiv_eq_ediv_of_nonneg (by omega), IntKind.wrap_u64]; clear h0 h1 e hle; omega
   rw [← ref_log_l1 j k (m / 2) b (by omega) h0 h1]
   show earshotref03_Log.l1 ((k + j + 1) + 1) b (m : Int) = _
   rw [earshotref03_Log.l1, if_pos (by omega), e2]
theorem lt8 {i : Nat} (h : i < 8) : (i : Int) < 8 := by omega
theorem sq_wrap {m : Nat} (h1 : m < 4294967296) : IntKind.u64.wrap ((m : Int) * (m : Int)) = ((m * m : Nat) : Int) := by
 have := Nat.mul_le_mul (show m ≤ 4294967295 by omega) (show m ≤ 4294967295 by omega)
 rw [← Int.natCast_mul, IntKind.wrap_u64]
 omega
theorem half_wrap {m : Nat} (h1 : m < 4294967296) : IntKind.u64.wrap (Int.tdiv ((m * m : Nat) : Int) 2147483648) = ((m * m / 2147483648 : Nat) : Int) := by
 have := Nat.mul_le_mul (show m ≤ 4294967295 by omega) (show m ≤ 4294967295 by omega)
 generalize m * m = z at *
 rw [Int.tdiv_eq_ediv_of_nonneg (by omega), IntKind.wrap_u64]; omega
theorem q_half {q : Nat} (h1 : q < 8589934592) : IntKind.u64.wrap (Int.tdiv ((q : Nat) : Int) 2) = ((q / 2 : Nat) : Int) := by
 rw [Int.tdiv_eq_ediv_of_nonneg (by omega), IntKind.wrap_u64]; omega
theorem ww_add {i : Nat} (h : i < 2 ^ 42) : wrap64 ((i : Int) + 1) = ((i + 1 : Nat) : Int) := by unfold wrap64; omega
theorem ww_mul {n : Nat} (h : n < 2 ^ 40) : wrap64 ((n : Int) * 2) = ((2 * n : Nat) : Int) := by unfold wrap64; omega
theorem ref_log_l2 : ∀ (j k m n i l : Nat), i + j = 8 → l ≤ 63 → 2147483648 ≤ m → m < 4294967296 → n < 2 ^ (32 + i) → earshotref03_Log.l2 (k + j + 1) (l : Int) (m : Int) (n : Int) (i : Int) = some ((256 * l + (n * 2 ^ j + dD j m) : Nat) : Int)
 | 0, k, m, n, i, l, hi, hl, h0, h1, hn => by
   have hn40 : n < 2 ^ 40 := Nat.lt_of_lt_of_le hn (Nat.pow_le_pow_right (by decide) (by omega))
   clear hn
   rw [earshotref03_Log.l2, if_neg (by omega), dD, Nat.pow_zero, Nat.mul_one]
   congr 1
   unfold wrap64
   omega
 | j + 1, k, m, n, i, l, hi, hl, h0, h1, hn => by
   have hn40 : n < 2 ^ 40 := Nat.lt_of_lt_of_le hn (Nat.pow_le_pow_right (by decide) (by omega))
   have hn2 : ∀ d, d < 2 → 2 * n + d < 2 ^ (32 + (i + 1)) := by
    intro d hd
    rw [show 32 + (i + 1) = (32 + i) + 1 from rfl, Nat.pow_succ]
    generalize 2 ^ (32 + i) = P at hn
    omega
   have hd : dD (j + 1) m = (m * m / 2147483648 / 4294967296) * 2 ^ j + dD j (m * m / 2147483648 / 2 ^ (m * m / 2147483648 / 4294967296)) := rfl
   show earshotref03_Log.l2 ((k + j + 1) + 1) (l : Int) (m : Int) (n : Int) (i : Int) = _
   rw [hd, earshotref03_Log.l2, if_pos (lt8 (by omega)), sq_wrap h1, half_wrap h1, ww_add (by omega), ww_mul hn40, ww_add (by clear hn hn2; omega)]
   obtain ⟨s0, s1⟩ := sq_range h0 h1
   obtain ⟨a, b, c⟩ := next_range h0 h1
   clear hn hd
   generalize m * m / 2147483648 = q at *
   have hij : i + 1 + j = 8 := by omega
   by_cases hc : q / 4294967296 = 1
   ·
    rw [hc, Nat.pow_one] at a b
    have ih := ref_log_l2 j k _ _ (i + 1) l hij hl a b (hn2 1 (by decide))
    clear hn2 a b
    rw [if_pos (by omega), q_half s1, ih, hc, Nat.pow_one, Nat.one_mul, Nat.pow_succ]
    congr 2
    generalize dD j _ = e
    rw [Nat.add_mul, Nat.one_mul, Nat.mul_comm 2 n, Nat.mul_assoc n 2, Nat.mul_comm 2 (2 ^ j), Nat.add_assoc]
   ·
    have hc : q / 4294967296 = 0 := by clear hn2 a b; omega
    rw [hc, Nat.pow_zero, Nat.div_one] at a b
    have ih := ref_log_l2 j k _ _ (i + 1) l hij hl a b (hn2 0 (by decide))
    clear hn2 a b
    rw [if_neg (by omega), show ((2 * n : Nat) : Int) = ((2 * n + 0 : Nat) : Int) from rfl, ih, hc, Nat.pow_zero, Nat.div_one, Nat.zero_mul, Nat.pow_succ]
    congr 2
    generalize dD j _ = e
    rw [Nat.add_zero, Nat.mul_comm 2 n, Nat.mul_assoc n 2, Nat.mul_comm 2 (2 ^ j), Nat.zero_add]
theorem ref_log_some {x : Nat} (h : x < 2 ^ 64) : earshotref03_Log.f 110 (x : Int) = some ((logN x : Nat) : Int) := by
 by_cases h0 : x = 0
 · subst h0; rfl
 ·
  obtain ⟨a, b, c, d⟩ := bl_spec h h0
  unfold earshotref03_Log.f logN
  rw [if_neg (by omega), ref_bits_some h (by decide), bsome, if_neg h0]
  obtain ⟨l, hl⟩ : ∃ l, Lib.bitLen x - 1 = l := ⟨_, rfl⟩
  have e1 : wrap64 (((Lib.bitLen x : Nat) : Int) - 1) = (l : Int) := by unfold wrap64; omega
  have hl63 : l ≤ 63 := by omega
  rw [e1]
  rw [hl] at c d ⊢
  obtain ⟨m0, m1⟩ := mant_range (b := l) hl63 c d
  by_cases h31 : l ≤ 31
  ·
   have em : mant l x = x * 2 ^ (31 - l) := by
    unfold mant
    rw [show 63 - l = (31 - l) + 32 by omega, Nat.pow_add, ← Nat.mul_assoc]
    exact Nat.mul_div_cancel _ (by decide)
   have := ref_log_l0 (31 - l) (109 - (31 - l)) x (l : Int) (by rw [← em]; exact m0) (Or.inr (by rw [← em]; exact m1))
   rw [show 109 - (31 - l) + (31 - l) + 1 = 110 by omega, ← em] at this
   rw [this]
   have := ref_log_l1 0 (109 - (31 - l) - 1) (mant l x) (l : Int) (by omega) (by rw [Nat.pow_zero, Nat.div_one]; exact m0) (by rw [Nat.pow_zero, Nat.div_one]; exact m1)
   rw [show 109 - (31 - l) - 1 + 0 + 1 = 109 - (31 - l) + 0 by omega, Nat.pow_zero, Nat.div_one] at this
   rw [this]
   have := ref_log_l2 8 (109 - (31 - l) - 1 - 9) (mant l x) 0 0 l rfl hl63 m0 m1 (by decide)
   rw [show 109 - (31 - l) - 1 - 9 + 8 + 1 = 109 - (31 - l) - 1 + 0 by omega] at this
   rw [show (0 : Int) = ((0 : Nat) : Int) from rfl, this, Nat.zero_mul, Nat.zero_add]
  ·
   have em : mant l x = x / 2 ^ (l - 31) := by
    unfold mant
    have e : (4294967296 : Nat) = 2 ^ (l - 31) * 2 ^ (63 - l) := by rw [← Nat.pow_add, show l - 31 + (63 - l) = 32 by omega]
    rw [e, Nat.mul_div_mul_right _ _ (Nat.two_pow_pos _)]
   have hx : 2147483648 ≤ x := Nat.le_trans (show 2 ^ 31 ≤ 2 ^ l from Nat.pow_le_pow_right (by decide) (by omega)) c
   have := ref_log_l0 0 109 x (l : Int) (by rw [Nat.pow_zero, Nat.mul_one]; exact hx) (Or.inl rfl)
   rw [Nat.pow_zero, Nat.mul_one] at this
   rw [this]
   have := ref_log_l1 (l - 31) (108 - (l - 31)) x (l : Int) h (by rw [← em]; exact m0) (by rw [← em]; exact m1)
   rw [show 108 - (l - 31) + (l - 31) + 1 = 109 + 0 by omega, ← em] at this
   rw [this]
   have := ref_log_l2 8 (108 - (l - 31) - 9) (mant l x) 0 0 l rfl hl63 m0 m1 (by decide)
   rw [show 108 - (l - 31) - 9 + 8 + 1 = 108 - (l - 31) + 0 by omega] at this
   rw [show (0 : Int) = ((0 : Nat) : Int) from rfl, this, Nat.zero_mul, Nat.zero_add]
theorem may_s {h : Nat} (hm : sp_may h = true) : 0 < h ∧ (h : Int) * ((32 / h : Nat) : Int) = 32 ∧ h ≤ 32 := by
 rcases sp_may_cases hm with rfl | rfl | rfl | rfl | rfl | rfl <;> decide
theorem ci64_mk {x : Int} (h0 : -9223372036854775808 ≤ x) (h1 : x ≤ 9223372036854775807) : ci64b x = true := by simp [ci64b, h0, h1]
theorem ref4rest_f {x : Int} (h0 : -9223372036854775808 ≤ x) (h1 : x ≤ 9223372036854775807) : earshotref04_Rest.f x = some (x % 64) := by
 unfold earshotref04_Rest.f
 rw [refrest_f ⟨h0, h1⟩ (by decide) (by decide)]
 rfl
theorem refcos_fin (k : Nat) : ∀ r : Fin 64, earshotref04_Cos.f 3 ((r.1 : Nat) : Int) = some (cosAt ((r.1 : Nat) : Int)) := by decide +kernel
theorem refcos_f {x : Int} (h0 : -9223372036854775808 ≤ x) (h1 : x ≤ 9223372036854775807) (k : Nat) (hk : 3 ≤ k) : earshotref04_Cos.f k x = some (cosT x) := by
 have e : earshotref04_Cos.f 3 x = earshotref04_Cos.f 3 (x % 64) := by
  unfold earshotref04_Cos.f
  rw [ref4rest_f h0 h1, ref4rest_f (x := x % 64) (by omega) (by omega), Int.emod_emod_of_dvd _ (Int.dvd_refl 64)]
 have m0 := Int.emod_nonneg x (show (64 : Int) ≠ 0 by decide)
 have m1 := Int.emod_lt_of_pos x (show (0 : Int) < 64 by decide)
 obtain ⟨n, hn⟩ := Int.eq_ofNat_of_zero_le m0
 refine at_rounds (fun k => earshotref04_Cos.mono x k) hk ?_
 rw [e, hn]
 unfold cosT
 rw [hn]
 exact refcos_fin 0 ⟨n, by omega⟩
theorem refsin_f {x : Int} (h0 : -9223372036854775808 ≤ x) (h1 : x ≤ 9223372036854775807) (k : Nat) (hk : 3 ≤ k) : earshotref04_Sin.f k x = some (sinT x) := by
 unfold earshotref04_Sin.f
 have m0 := Int.emod_nonneg x (show (64 : Int) ≠ 0 by decide)
 have m1 := Int.emod_lt_of_pos x (show (0 : Int) < 64 by decide)
 rw [ref4rest_f h0 h1, Option.bind_some, W_in (by omega) (by omega), refcos_f (by omega) (by omega) k hk]
 rfl
theorem refmay_f (h : Nat) : earshotref09_May.f (h : Int) = some (sp_may h) := by
 unfold earshotref09_May.f sp_may
 by_cases h1 : h = 1
 · subst h1; rfl
 by_cases h2 : h = 2
 · subst h2; rfl
 by_cases h4 : h = 4
 · subst h4; rfl
 by_cases h8 : h = 8
 · subst h8; rfl
 by_cases h16 : h = 16
 · subst h16; rfl
 rw [if_neg (by omega), if_neg (by omega), if_neg (by omega), if_neg (by omega), if_neg (by omega)]
 have e : ∀ a b : Nat, a ≠ b → (a == b) = false := fun a b h => by simp [h]
 rw [e h 1 h1, e h 2 h2, e h 4 h4, e h 8 h8, e h 16 h16]
 simp only [Bool.false_or]
 congr 1
 by_cases h32 : h = 32
 · subst h32; rfl
 · rw [e h 32 h32]; simp; omega
theorem quo_s {h j : Nat} (hm : sp_may h = true) : wrap64 (Int.tdiv (wrap64 ((j : Int) * 32)) (h : Int)) = (j : Int) * ((32 / h : Nat) : Int) ∨ h < j := by
 by_cases hj : h < j
 · exact .inr hj
 ·
  refine .inl ?_
  have h32 := (may_s hm).2.2
  rw [W_in (a := (j : Int) * 32) (by omega) (by omega), Int.tdiv_eq_ediv_of_nonneg (by omega)]
  rcases sp_may_cases hm with rfl | rfl | rfl | rfl | rfl | rfl
  all_goals
   simp only [Nat.reduceDiv, Int.cast_ofNat_Int]
   rw [W_in (by omega) (by omega)]
   omega
theorem refreal_go (l : List Int) (hm : sp_may l.length = true) (m : Nat) (h3 : 3 ≤ m) : ∀ (d n : Nat), n + d = l.length →
  earshotref09_Real.l0 (d + 1 + m) l (sp_sum l cosT (32 / l.length) n) true (n : Int) = some (sp_sum l cosT (32 / l.length) l.length)
 | 0, n, hn => by
   rw [show 0 + 1 + m = m + 1 by omega, earshotref09_Real.l0, if_neg (by omega), show n = l.length by omega]
 | d + 1, n, hn => by
   have ih := refreal_go l hm m h3 d (n + 1) (by omega)
   obtain ⟨h0, hs, h32⟩ := may_s hm
   have w3 : wrap64 ((n : Int) + 1) = ((n + 1 : Nat) : Int) := by rw [W_in (by omega) (by omega)]; omega
   have hq := (quo_s (j := n) hm).resolve_right (by omega)
   have hb : 0 ≤ (n : Int) * ((32 / l.length : Nat) : Int) ∧ (n : Int) * ((32 / l.length : Nat) : Int) ≤ 32 := by
    rw [← hs]
    exact ⟨Int.mul_nonneg (Int.natCast_nonneg _) (Int.natCast_nonneg _), Int.mul_le_mul_of_nonneg_right (by omega) (Int.natCast_nonneg _)⟩
   rw [show d + 1 + 1 + m = (d + 1 + m) + 1 by omega, earshotref09_Real.l0, if_pos (by omega), if_pos rfl, if_pos (by omega), if_neg (by omega), hq, refcos_f (by omega) (by omega) _ (by omega), Option.bind_some, w3]
   unfold rd
   rw [Int.toNat_natCast]
   exact ih
theorem refreal_f (l : List Int) (hl : l.length ≤ 1000) : earshotref09_Real.f 1010 l = some (sp_part l cosT) := by
 unfold earshotref09_Real.f sp_part
 rw [refmay_f, Option.bind_some]
 by_cases hm : sp_may l.length = true
 ·
  rw [hm, if_pos rfl]
  have h32 := (may_s hm).2.2
  have := refreal_go l hm (1009 - l.length) (by omega) l.length 0 (by omega)
  rw [show l.length + 1 + (1009 - l.length) = 1010 by omega] at this
  exact this
 ·
  rw [if_neg hm]
  have hf : sp_may l.length = false := by simpa using hm
  rw [hf, earshotref09_Real.l0]
  split
  · rw [if_neg (by decide)]
  · rfl
theorem refimag_go (l : List Int) (hm : sp_may l.length = true) (m : Nat) (h3 : 3 ≤ m) : ∀ (d n : Nat), n + d = l.length →
  earshotref09_Imag.l0 (d + 1 + m) l (wrap64 (-(sp_sum l sinT (32 / l.length) n))) true (n : Int) = some (wrap64 (-(sp_sum l sinT (32 / l.length) l.length)))
 | 0, n, hn => by
   rw [show 0 + 1 + m = m + 1 by omega, earshotref09_Imag.l0, if_neg (by omega), show n = l.length by omega]
 | d + 1, n, hn => by
   have ih := refimag_go l hm m h3 d (n + 1) (by omega)
   obtain ⟨h0, hs, h32⟩ := may_s hm
   have w3 : wrap64 ((n : Int) + 1) = ((n + 1 : Nat) : Int) := by rw [W_in (by omega) (by omega)]; omega
   have hq := (quo_s (j := n) hm).resolve_right (by omega)
   have hb : 0 ≤ (n : Int) * ((32 / l.length : Nat) : Int) ∧ (n : Int) * ((32 / l.length : Nat) : Int) ≤ 32 := by
    rw [← hs]
    exact ⟨Int.mul_nonneg (Int.natCast_nonneg _) (Int.natCast_nonneg _), Int.mul_le_mul_of_nonneg_right (by omega) (Int.natCast_nonneg _)⟩
   rw [show d + 1 + 1 + m = (d + 1 + m) + 1 by omega, earshotref09_Imag.l0, if_pos (by omega), if_pos rfl, if_pos (by omega), if_neg (by omega), hq, refsin_f (by omega) (by omega) _ (by omega), Option.bind_some, w3]
   unfold rd
   rw [Int.toNat_natCast]
   rw [sp_sum, W_neg_W] at ih
   rw [← ih]
   congr 1
   rw [W_W_sub, W_sub_W, ← W_neg_W, W_add_W, W_neg_W]
   congr 1; omega
theorem refimag_f (l : List Int) (hl : l.length ≤ 1000) : earshotref09_Imag.f 1010 l = some (wrap64 (-(sp_part l sinT))) := by
 unfold earshotref09_Imag.f sp_part
 rw [refmay_f, Option.bind_some]
 by_cases hm : sp_may l.length = true
 ·
  rw [hm, if_pos rfl]
  have h32 := (may_s hm).2.2
  have := refimag_go l hm (1009 - l.length) (by omega) l.length 0 (by omega)
  rw [show l.length + 1 + (1009 - l.length) = 1010 by omega] at this
  have hz : wrap64 (-(sp_sum l sinT (32 / l.length) 0)) = 0 := W_in (a := -0) (by decide) (by decide)
  rw [hz] at this
  exact this
 ·
  rw [if_neg hm]
  have hf : sp_may l.length = false := by simpa using hm
  rw [hf, earshotref09_Imag.l0]
  have hz : wrap64 (-0) = 0 := W_in (a := -0) (by decide) (by decide)
  rw [hz]
  split
  · rw [if_neg (by decide)]
  · rfl
theorem same_goK (l : List Int) (hl : l.length ≤ 100000000) (d : Nat) : ∀ (k i : Nat), i ≤ l.length → l.length - i = d → d < k → earshotref04_Same.l0 k l l (i : Int) = some true := by
 induction d with
 | zero =>
   intro k i h0 hd hk
   obtain ⟨k, rfl⟩ : ∃ m, k = m + 1 := ⟨k - 1, by omega⟩
   simp only [earshotref04_Same.l0]
   rw [if_neg (by omega)]
 | succ d ih =>
   intro k i h0 hd hk
   obtain ⟨k, rfl⟩ : ∃ m, k = m + 1 := ⟨k - 1, by omega⟩
   simp only [earshotref04_Same.l0]
   have hw : wrap64 ((i : Int) + 1) = ((i + 1 : Nat) : Int) := by unfold wrap64; omega
   rw [if_pos (by omega), if_pos (by omega), if_pos (by omega), if_pos trivial, hw]
   exact ih k (i + 1) (by omega) (by omega) (by omega)
theorem sameK (l : List Int) (hl : l.length ≤ 100000000) {k : Nat} (hk : l.length < k) : earshotref04_Same.f k l l = some true := by
 unfold earshotref04_Same.f
 rw [if_pos rfl]
 exact same_goK l hl l.length k 0 (by omega) (by omega) (by omega)
theorem up_ {α : Type} {f : Nat → Option α} (h : ∀ k, LeO (f k) (f (k + 1))) {k n : Nat} {r : α} (hk : f k = some r) (hn : k ≤ n) : f n = some r := by
 obtain ⟨d, rfl⟩ := Nat.exists_eq_add_of_le hn
 clear hn
 induction d with
 | zero => exact hk
 | succ d ih => exact h (k + d) _ ih
theorem size_some {x : Int} (h0 : -9223372036854775808 ≤ x) (h1 : x < 9223372036854775808) : earshotref03_size.f x = some ((x.natAbs : Nat) : Int) := by
 unfold earshotref03_size.f
 split
 ·
  congr 1
  rw [IntKind.wrap_u64, IntKind.wrap_u64]; unfold wrap64; omega
 ·
  congr 1
  rw [IntKind.wrap_u64]; omega
theorem rnorm_l0 (l : List Int) (hl : l.length ≤ 500) (hw : Rng l) : ∀ (j k2 i acc : Nat), i + j = l.length → acc < 2 ^ 64 → j + 65 < k2 →
  earshotref03_Norm.l0 k2 l ((Lib.bitLen acc : Nat) : Int) (i : Int) = some ((Lib.bitLen (acc ||| orL (l.drop i)) : Nat) : Int)
 | 0, k2, i, acc, hi, ha, hk2 => by
   obtain ⟨k2, rfl⟩ : ∃ k', k2 = k' + 1 := ⟨k2 - 1, by omega⟩
   rw [earshotref03_Norm.l0, if_neg (by omega), List.drop_eq_nil_of_le (by omega)]
   show _ = some ((Lib.bitLen (acc ||| 0) : Nat) : Int)
   rw [Nat.or_zero]
 | j + 1, k2, i, acc, hi, ha, hk2 => by
   obtain ⟨k2, rfl⟩ : ∃ k', k2 = k' + 1 := ⟨k2 - 1, by omega⟩
   have hr : rd l (i : Int) = l[i]'(by omega) := by
    unfold rd
    rw [Int.toNat_natCast, List.getD_eq_getElem?_getD, List.getElem?_eq_getElem (by omega), Option.getD_some]
   obtain ⟨w0, w1⟩ := hw _ (List.getElem_mem (show i < l.length by omega))
   rw [← hr] at w0 w1
   have hx64 : (rd l (i : Int)).natAbs < 2 ^ 64 := by omega
   have e1 : wrap64 ((i : Int) + 1) = ((i + 1 : Nat) : Int) := by unfold wrap64; omega
   have ih := rnorm_l0 l hl hw j k2 (i + 1) (acc ||| (rd l (i : Int)).natAbs) (by omega) (Nat.or_lt_two_pow ha hx64) (by omega)
   have ed : orL (l.drop i) = (rd l (i : Int)).natAbs ||| orL (l.drop (i + 1)) := by
    rw [List.drop_eq_getElem_cons (show i < l.length by omega), hr]; rfl
   rw [ed, ← Nat.or_assoc, ← ih, earshotref03_Norm.l0, if_pos (by omega), if_pos (by omega), size_some w0 (by omega), bsome, ref_bits_some hx64 (by omega), bsome, e1, bl_or ha hx64]
   by_cases hc : Lib.bitLen (rd l (i : Int)).natAbs > Lib.bitLen acc
   · rw [if_pos hc, if_pos (by omega)]
   · rw [if_neg hc, if_neg (by omega)]
theorem rnorm_f (l : List Int) (hl : l.length ≤ 500) (hw : Rng l) (k : Nat) (hk : 600 ≤ k) : earshotref03_Norm.f k l = some ((normN l : Nat) : Int) := by
 have h := rnorm_l0 l hl hw l.length k 0 0 (by omega) (by decide) (by omega)
 rw [bl_zero] at h
 unfold earshotref03_Norm.f
 rw [show ((0 : Nat) : Int) = 0 from rfl] at h
 rw [h, List.drop_zero, Nat.zero_or]
 rfl
theorem rmay10_f (n : Nat) (hn : n ≤ 1000) : earshotref10_May.f (n : Int) = some (fftMay n) := by
 by_cases h : fftMay n = true
 · rw [h]; exact refmay10_f n h
 ·
  rw [show fftMay n = false by simpa using h]
  exact rmay_no ⟨n, by omega⟩ (by simpa using h)
theorem rhalves (re im : List Int) (M H : Nat) (s : Nat) (hs : s ≤ 62) (hr : re.length = M) (hi : im.length = M) (hM : M = H + 1) (hH : H ≤ 32) (rr : Rng re) (ri : Rng im) (N : Int) (hN : Aside0 (wrap64 (Int.tdiv N 2) = (H : Int))) : ∀ (d n k : Nat) (ys zs : List Int), n + d = M → ys.length = M → zs.length = M →
  (∀ j, j < M → ys.getD j 0 = if j < n then (halfL re s).getD j 0 else re.getD j 0) → (∀ j, j < M → zs.getD j 0 = if j < n then (halfL im s).getD j 0 else im.getD j 0) →
  earshotref10_Bins.l1 (k + 100 + d) N (n : Int) ys zs (s : Int) = some (halfL re s, halfL im s, (s : Int))
 | 0, n, k, ys, zs, hn, hy, hz, gy, gz => by
   show earshotref10_Bins.l1 ((k + 99) + 1) _ _ _ _ _ = _
   rw [earshotref10_Bins.l1, hN.out, if_neg (by omega)]
   have e1 : ys = halfL re s := row_ext (by rw [halfL_length, hy, hr]) (fun j hj => by rw [gy j (by omega), if_pos (by omega)])
   have e2 : zs = halfL im s := row_ext (by rw [halfL_length, hz, hi]) (fun j hj => by rw [gz j (by omega), if_pos (by omega)])
   rw [e1, e2]
 | d + 1, n, k, ys, zs, hn, hy, hz, gy, gz => by
   have ry : rd ys (n : Int) = re.getD n 0 := by unfold rd; rw [Int.toNat_natCast, gy n (by omega), if_neg (by omega)]
   have rz : rd zs (n : Int) = im.getD n 0 := by unfold rd; rw [Int.toNat_natCast, gz n (by omega), if_neg (by omega)]
   have e1 : Aside0 (wrap64 ((n : Int) + 1) = ((n + 1 : Nat) : Int)) := ⟨by unfold wrap64; omega⟩
   rw [show k + 100 + (d + 1) = (k + 100 + d) + 1 by omega, earshotref10_Bins.l1, hN.out, if_pos (by omega), if_pos (by omega), if_pos (by omega), ry, rz, rhalf_f (rng_at rr n (by omega)) s hs _ (by omega), bsome, if_pos (by omega), rhalf_f (rng_at ri n (by omega)) s hs _ (by omega), bsome, e1.out, Int.toNat_natCast]
   exact rhalves re im M H s hs hr hi hM hH rr ri N hN d (n + 1) k _ _ (by omega) (by rw [List.length_set, hy]) (by rw [List.length_set, hz]) (fun j hj => set_half (s := s) hy hr (by omega) gy j hj) (fun j hj => set_half (s := s) hz hi (by omega) gz j hj)
theorem rbins_l0 (l : List Int) (hin : In64 l) (N H : Nat) (hl : l.length = N) (hm : fftMay N = true) (hH : N / 2 = H) (k : Nat) : ∀ (d n : Nat), n + d = H + 1 →
  earshotref10_Bins.l0 (k + 2000 + d) l (N : Int) (n : Int) (partsRe (spinsF l) n) (partsIm (spinsF l) n) 0 = some (binsF l)
 | 0, n, hn => by
   obtain rfl : n = H + 1 := by omega
   have hN64 : 2 ≤ N ∧ N ≤ 64 ∧ H ≤ 32 := by rcases fftMay_cases hm with rfl | rfl | rfl | rfl | rfl | rfl <;> omega
   have hq : Aside0 (wrap64 (Int.tdiv (N : Int) 2) = (H : Int)) := ⟨by
    have : Int.tdiv (N : Int) 2 = (H : Int) := by rw [Int.tdiv_eq_ediv_of_nonneg (by omega)]; omega
    rw [this]; exact W_in (by omega) (by omega)⟩
   have l1 := partsRe_length (spinsF l) (H + 1)
   have l2 := partsIm_length (spinsF l) (H + 1)
   have r1 := partsRe_rng (spinsF l) (H + 1)
   have r2 := partsIm_rng (spinsF l) (H + 1)
   have hb : binsF l = (halfL (partsRe (spinsF l) (H + 1)) (shiftOf (partsRe (spinsF l) (H + 1)) (partsIm (spinsF l) (H + 1))), halfL (partsIm (spinsF l) (H + 1)) (shiftOf (partsRe (spinsF l) (H + 1)) (partsIm (spinsF l) (H + 1))), ((shiftOf (partsRe (spinsF l) (H + 1)) (partsIm (spinsF l) (H + 1)) : Nat) : Int)) := by
    unfold binsF
    rw [hl, if_pos hm, hH]
   rw [hb]
   generalize partsRe (spinsF l) (H + 1) = re at *
   generalize partsIm (spinsF l) (H + 1) = im at *
   show earshotref10_Bins.l0 ((k + 1999) + 1) _ _ _ _ _ _ = _
   rw [earshotref10_Bins.l0, hq.out, if_neg (by omega), bsome, if_pos (by simp [l1]; omega), bsome, if_pos (by simp [l1, l2]; omega), List.nil_append, rnorm_f (re ++ im) (by simp [l1, l2]; omega) (r1.append r2) _ (by omega), bsome]
   have hnn := normN_le (r1.append r2)
   unfold shiftOf
   by_cases hc : ((normN (re ++ im) : Nat) : Int) > 15
   ·
    rw [if_pos hc]
    have e : wrap64 (((normN (re ++ im) : Nat) : Int) - 15) = ((normN (re ++ im) - 15 : Nat) : Int) := by
     rw [W_in (by omega) (by omega)]; omega
    rw [e]
    show earshotref10_Bins.j1 ((k + 1998) + 1) _ _ _ _ = _
    rw [earshotref10_Bins.j1]
    have h := rhalves re im (H + 1) H (normN (re ++ im) - 15) (by omega) l1 l2 rfl hN64.2.2 r1 r2 (N : Int) hq (H + 1) 0 (k + 1998 - 100 - (H + 1)) re im (by omega) l1 l2 (fun j _ => by rw [if_neg (by omega)]) (fun j _ => by rw [if_neg (by omega)])
    rw [show k + 1998 - 100 - (H + 1) + 100 + (H + 1) = k + 1998 by omega] at h
    exact h
   ·
    rw [if_neg hc]
    have e : normN (re ++ im) - 15 = 0 := by omega
    rw [e]
    show earshotref10_Bins.j1 ((k + 1998) + 1) _ _ _ _ = _
    rw [earshotref10_Bins.j1]
    have h := rhalves re im (H + 1) H 0 (by omega) l1 l2 rfl hN64.2.2 r1 r2 (N : Int) hq (H + 1) 0 (k + 1998 - 100 - (H + 1)) re im (by omega) l1 l2 (fun j _ => by rw [if_neg (by omega)]) (fun j _ => by rw [if_neg (by omega)])
    rw [show k + 1998 - 100 - (H + 1) + 100 + (H + 1) = k + 1998 by omega] at h
    exact h
 | d + 1, n, hn => by
   have hN64 : 2 ≤ N ∧ N ≤ 64 ∧ H ≤ 32 ∧ H < N := by rcases fftMay_cases hm with rfl | rfl | rfl | rfl | rfl | rfl <;> omega
   have hq : Aside0 (wrap64 (Int.tdiv (N : Int) 2) = (H : Int)) := ⟨by
    have : Int.tdiv (N : Int) 2 = (H : Int) := by rw [Int.tdiv_eq_ediv_of_nonneg (by omega)]; omega
    rw [this]; exact W_in (by omega) (by omega)⟩
   have hs : earshotref10_Sum.f (n : Int) l = some ((spinsF l).getD n []) := by
    unfold earshotref10_Sum.f
    rw [if_pos (by simp only [Bool.and_eq_true, decide_eq_true_eq, List.all_eq_true]; exact ⟨⟨⟨by omega, fun x hx => hin x hx⟩, by omega⟩, by omega⟩)]
    unfold sumF
    rw [hl, if_pos hm, spinAt_row l hin (by rw [hl]; exact hm) n (by omega)]
   have hrl : ((spinsF l).getD n []).length ≤ 1000 := by
    rw [spinAt_row l hin (by rw [hl]; exact hm) n (by omega), spinAt_length, hl, hH]; omega
   have e1 : Aside0 (wrap64 ((n : Int) + 1) = ((n + 1 : Nat) : Int)) := ⟨by unfold wrap64; omega⟩
   have hre : earshotref09_Real.f (k + 2000 + d) ((spinsF l).getD n []) = some (sp_part ((spinsF l).getD n []) cosT) := up_ (fun k => earshotref09_Real.mono _ k) (refreal_f _ hrl) (by omega)
   have him : earshotref09_Imag.f (k + 2000 + d) ((spinsF l).getD n []) = some (wrap64 (-(sp_part ((spinsF l).getD n []) sinT))) := up_ (fun k => earshotref09_Imag.mono _ k) (refimag_f _ hrl) (by omega)
   rw [show k + 2000 + (d + 1) = (k + 2000 + d) + 1 by omega, earshotref10_Bins.l0, hq.out, if_pos (by omega), hs, bsome, hre, bsome, if_pos (by rw [partsRe_length]; omega), him, bsome, if_pos (by rw [partsIm_length]; omega), e1.out, partsRe_snoc, partsIm_snoc]
   exact rbins_l0 l hin N H hl hm hH k d (n + 1) (by omega)
theorem rbins_f (l : List Int) (hin : In64 l) (hl : l.length ≤ 70) (k : Nat) : earshotref10_Bins.f (k + 2100) l = some (binsF l) := by
 unfold earshotref10_Bins.f
 rw [rmay10_f _ (by omega), bsome]
 by_cases hm : fftMay l.length = true
 ·
  rw [if_pos hm]
  have hH : l.length / 2 + 1 ≤ 100 := by omega
  have h := rbins_l0 l hin l.length (l.length / 2) rfl hm rfl (k + 100 - (l.length / 2 + 1)) (l.length / 2 + 1) 0 (by omega)
  rw [show k + 100 - (l.length / 2 + 1) + 2000 + (l.length / 2 + 1) = k + 2100 by omega] at h
  exact h
 ·
  rw [if_neg hm]
  unfold binsF
  rw [if_neg hm]
theorem rd_nat (l : List Int) (n : Nat) : rd l (n : Int) = l.getD n 0 := by unfold rd; rw [Int.toNat_natCast]
theorem rpow_go (a b : List Int) (h : a.length = b.length) (hl : a.length ≤ 1000) (k : Nat) : ∀ (d n : Nat), n + d = a.length → earshotref10_Power.l0 (k + 1 + d) a b ((powL a b).take n) (n : Int) = some (powL a b)
 | 0, n, hn => by
   rw [earshotref10_Power.l0, if_neg (by omega), List.take_of_length_le (by rw [powL_length h]; omega)]
 | d + 1, n, hn => by
   have e1 : wrap64 ((n : Int) + 1) = ((n + 1 : Nat) : Int) := by unfold wrap64; omega
   have ez := zip_take (fun x y => wrap64 (wrap64 (x * x) + wrap64 (y * y))) a b n (by omega) (by omega)
   rw [show k + 1 + (d + 1) = (k + 1 + d) + 1 by omega, earshotref10_Power.l0, if_pos (by omega), if_pos (by omega), if_pos (by omega), if_pos (by rw [List.length_take]; omega), rd_nat, rd_nat, e1]
   have e2 : (powL a b).take n ++ [wrap64 (wrap64 (a.getD n 0 * a.getD n 0) + wrap64 (b.getD n 0 * b.getD n 0))] = (powL a b).take (n + 1) := ez
   rw [e2]
   exact rpow_go a b h hl k d (n + 1) (by omega)
theorem rpow_f (a b : List Int) (h : a.length = b.length) (hl : a.length ≤ 1000) (k : Nat) (hk : 1001 ≤ k) : earshotref10_Power.f k a b = some (powL a b) := by
 have := rpow_go a b h hl (k - 1 - a.length) a.length 0 (by omega)
 rw [show k - 1 - a.length + 1 + a.length = k by omega] at this
 exact this
theorem bins_len (v : List Int) (hl : v.length ≤ 70) : (binsF v).1.length = (binsF v).2.1.length ∧ (binsF v).1.length ≤ 40 := by
 unfold binsF
 split
 ·
  simp only [halfL_length, partsRe_length, partsIm_length]
  exact ⟨trivial, by omega⟩
 · exact ⟨rfl, by decide⟩
def highF (x : Int) : Int := if 0 ≤ x ∧ x ≤ 64 then hiN x.toNat else 0
theorem rhi_fin : ∀ b : Fin 65, earshotref11_High.f 80 ((b.1 : Nat) : Int) = some (hiN b.1) := by decide +kernel
theorem rhiK {b : Nat} (hb : b ≤ 64) : ∀ k, 80 ≤ k → earshotref11_High.f k (b : Int) = some (hiN b) := by
 intro k hk
 obtain ⟨d, rfl⟩ := Nat.exists_eq_add_of_le hk
 clear hk
 induction d with
 | zero => exact rhi_fin ⟨b, by omega⟩
 | succ d ih => exact earshotref11_High.mono _ _ _ ih
theorem high_f (x : Int) : mel_High.f 30 x = some (highF x) := by
 unfold highF
 by_cases h : 0 ≤ x ∧ x ≤ 64
 ·
  rw [if_pos h]
  obtain ⟨n, rfl⟩ := Int.eq_ofNat_of_zero_le h.1
  rw [Int.toNat_natCast]
  exact hi_some (by omega)
 ·
  rw [if_neg h]
  unfold mel_High.f
  by_cases h0 : x < 0
  · rw [if_pos h0]
  · rw [if_neg h0, if_pos (by omega)]
theorem rhigh_f (x : Int) : earshotref11_High.f 80 x = some (highF x) := by
 unfold highF
 by_cases h : 0 ≤ x ∧ x ≤ 64
 ·
  rw [if_pos h]
  obtain ⟨n, rfl⟩ := Int.eq_ofNat_of_zero_le h.1
  rw [Int.toNat_natCast]
  exact rhiK (by omega) 80 (Nat.le_refl _)
 ·
  rw [if_neg h]
  unfold earshotref11_High.f
  by_cases h0 : x < 0
  · rw [if_pos h0]
  · rw [if_neg h0, if_pos (by omega)]
theorem prod_in {b : Nat} {c : Int} (hb : b ≤ 64) (h0 : 0 ≤ c) (h1 : c ≤ 17) : wrap64 (hiN b * c) = hiN b * c ∧ wrap64 (c * hiN b) = c * hiN b := by
 have hv := hi_bd hb
 have hq : 0 ≤ hiN b * c ∧ hiN b * c ≤ 170000 :=
  ⟨Int.mul_nonneg hv.1 h0, Int.le_trans (Int.mul_le_mul_of_nonneg_right hv.2 h0) (by omega)⟩
 have e := Int.mul_comm (hiN b) c
 generalize hiN b * c = P at *
 rw [← e]
 exact ⟨W_in (by omega) (by omega), W_in (by omega) (by omega)⟩
theorem rl1 {N B m : Nat} (hN : 1 ≤ N) (hN2 : N ≤ 64) (hB : B ≤ 16) (hm : m ≤ B + 1) (acc : List Int) (ha : acc.length < 17592186044416) : ∀ d b k, b + d = edgeOf (N + 1) (B + 1) m → 81 + d ≤ k →
  ∃ k', k ≤ k' + d + 1 ∧ earshotref11_Edges.l1 k ((N : Int) + 1) (B : Int) acc (m : Int) (b : Int) = earshotref11_Edges.l0 k' ((N : Int) + 1) (B : Int) (acc ++ [((edgeOf (N + 1) (B + 1) m : Nat) : Int)]) ((m + 1 : Nat) : Int) := by
 have sp := edge_spec (n := N + 1) (c := B + 1) (m := m) (by omega) (by omega) hm
 rw [Nat.add_sub_cancel] at sp
 generalize edgeOf (N + 1) (B + 1) m = E at *
 obtain ⟨s1, s2, s3⟩ := sp
 have w3 : wrap64 ((N : Int) + 1 - 1) = (N : Int) := by unfold wrap64; omega
 have w4 : wrap64 ((B : Int) + 1) = ((B + 1 : Nat) : Int) := by unfold wrap64; omega
 have hc0 : (0 : Int) ≤ ((B + 1 : Nat) : Int) := Int.natCast_nonneg _
 have hc1 : ((B + 1 : Nat) : Int) ≤ 17 := by omega
 have hc2 : (0 : Int) ≤ (m : Int) := Int.natCast_nonneg _
 have hc3 : (m : Int) ≤ 17 := by omega
 have p1 := (prod_in hN2 hc2 hc3).2
 have w2 : wrap64 ((m : Int) + 1) = ((m + 1 : Nat) : Int) := by clear s1 s3 p1; unfold wrap64; omega
 intro d
 induction d with
 | zero =>
   intro b k hb hk
   obtain ⟨k, rfl⟩ : ∃ j, k = j + 1 := ⟨k - 1, by clear s1 s3 p1 w2 w3 w4; omega⟩
   have hk8 : 80 ≤ k := by clear s1 s3 p1 w2 w3 w4; omega
   obtain rfl : b = E := hb
   have g0 := rhiK (Nat.le_trans s2 hN2) k hk8
   have g1 := rhiK hN2 k hk8
   have p0 := (prod_in (Nat.le_trans s2 hN2) hc0 hc1).1
   refine ⟨k, Nat.le_refl _, ?_⟩
   rw [earshotref11_Edges.l1, g0, bsome, w3, g1, bsome, w4, p0, p1, if_neg s3, if_pos ha, w2]
 | succ d ih =>
   intro b k hb hk
   obtain ⟨k, rfl⟩ : ∃ j, k = j + 1 := ⟨k - 1, by clear s1 s3 p1 w2 w3 w4; omega⟩
   have hk8 : 80 ≤ k := by clear s1 s3 p1 w2 w3 w4; omega
   have hlt : b < E := by clear s1 s3 p1 w2 w3 w4; omega
   have hb64 : b ≤ 64 := by clear s1 s3 p1 w2 w3 w4; omega
   have wb : wrap64 ((b : Int) + 1) = ((b + 1 : Nat) : Int) := by clear s1 s3 p1 w2 w3 w4; unfold wrap64; omega
   have g0 := rhiK hb64 k hk8
   have g1 := rhiK hN2 k hk8
   have p0 := (prod_in hb64 hc0 hc1).1
   have hd : k ≤ k := Nat.le_refl _
   obtain ⟨k', h1, h2⟩ := ih (b + 1) k (by clear s1 s3 p1 w2 w3 w4 p0 wb ih; omega) (by clear s1 s3 p1 w2 w3 w4 p0 wb ih; omega)
   refine ⟨k', by clear s1 s3 p1 w2 w3 w4 p0 wb ih h2; omega, ?_⟩
   rw [earshotref11_Edges.l1, g0, bsome, w3, g1, bsome, w4, p0, p1, if_pos (s1 b hlt), wb]
   exact h2
theorem range_snoc (f : Nat → Int) (m : Nat) : (List.range m).map f ++ [f m] = (List.range (m + 1)).map f := by rw [List.range_succ, List.map_append]; rfl
theorem rl0 {N B : Nat} (hN : 1 ≤ N) (hN2 : N ≤ 64) (hB : B ≤ 16) : ∀ d m k, m + d = B + 2 → 200 + 70 * d ≤ k →
  earshotref11_Edges.l0 k ((N : Int) + 1) (B : Int) ((List.range m).map fun j => ((edgeOf (N + 1) (B + 1) j : Nat) : Int)) (m : Int) = some (edgesL (N + 1) (B + 1)) := by
 intro d
 induction d with
 | zero =>
   intro m k hm hk
   obtain ⟨k, rfl⟩ : ∃ j, k = j + 1 := ⟨k - 1, by omega⟩
   have w4 : wrap64 ((B : Int) + 1) = ((B + 1 : Nat) : Int) := by unfold wrap64; omega
   have hn : ¬ (m : Int) ≤ ((B + 1 : Nat) : Int) := by clear w4; omega
   obtain rfl : m = B + 2 := hm
   rw [earshotref11_Edges.l0, w4, if_neg hn]
   rfl
 | succ d ih =>
   intro m k hm hk
   obtain ⟨k, rfl⟩ : ∃ j, k = j + 1 := ⟨k - 1, by omega⟩
   have w4 : wrap64 ((B : Int) + 1) = ((B + 1 : Nat) : Int) := by unfold wrap64; omega
   have hn : (m : Int) ≤ ((B + 1 : Nat) : Int) := by clear w4; omega
   have hE := (edge_spec (n := N + 1) (c := B + 1) (m := m) (by omega) (by omega) (by clear w4; omega)).2.1
   rw [Nat.add_sub_cancel] at hE
   obtain ⟨k', h1, h2⟩ := rl1 (N := N) (B := B) (m := m) hN hN2 hB (by clear w4; omega) ((List.range m).map fun j => ((edgeOf (N + 1) (B + 1) j : Nat) : Int)) (by rw [List.length_map, List.length_range]; clear w4; omega) (edgeOf (N + 1) (B + 1) m) 0 k (Nat.zero_add _) (by clear w4; omega)
   rw [show ((0 : Nat) : Int) = 0 from rfl, range_snoc (fun j => ((edgeOf (N + 1) (B + 1) j : Nat) : Int)) m] at h2
   rw [earshotref11_Edges.l0, w4, if_pos hn, h2]
   exact ih (m + 1) k' (by clear w4 h2; omega) (by clear w4 h2; omega)
theorem redges_f (a0 a1 : Int) : earshotref11_Edges.f 2000 a0 a1 = some (edgesF a0 a1) := by
 unfold edgesF earshotref11_Edges.f
 by_cases hm : mayE a0 a1 = true
 ·
  rw [if_pos hm]
  simp only [mayE, Bool.and_eq_true, decide_eq_true_eq] at hm
  obtain ⟨N, hN⟩ := Int.eq_ofNat_of_zero_le (show 0 ≤ a0 - 1 by omega)
  obtain ⟨B, rfl⟩ := Int.eq_ofNat_of_zero_le (show 0 ≤ a1 by omega)
  obtain rfl : a0 = (N : Int) + 1 := by omega
  rw [if_neg (by omega), if_neg (by omega), if_neg (by omega), decide_eq_false (show ¬ (B : Int) > 16 by omega), earshotref11_Edges.j0, if_neg (by decide)]
  have := rl0 (N := N) (B := B) (by omega) (by omega) (by omega) (B + 2) 0 1999 (by omega) (by omega)
  rw [show ((N : Int) + 1).toNat = N + 1 by omega, Int.toNat_natCast]
  rw [show ((0 : Nat) : Int) = 0 from rfl] at this
  exact this
 ·
  rw [if_neg hm]
  have hj : earshotref11_Edges.j0 2000 a0 a1 true = some [] := by rw [earshotref11_Edges.j0, if_pos rfl]
  by_cases c1 : a0 < 2
  · rw [if_pos c1, hj]
  by_cases c2 : a0 > 65
  · rw [if_neg c1, if_pos c2, hj]
  by_cases c3 : a1 < 1
  · rw [if_neg c1, if_neg c2, if_pos c3, hj]
  ·
   have c4 : a1 > 16 := by
    apply Classical.byContradiction; intro c4; apply hm
    unfold mayE; simp only [Bool.and_eq_true, decide_eq_true_eq]; omega
   rw [if_neg c1, if_neg c2, if_neg c3, decide_eq_true c4, hj]
theorem ref_log_K {x k : Nat} (h : x < 2 ^ 64) (hk : 110 ≤ k) : earshotref03_Log.f k (x : Int) = some ((logN x : Nat) : Int) := by
 obtain ⟨d, rfl⟩ := Nat.exists_eq_add_of_le hk
 clear hk
 induction d with
 | zero => exact ref_log_some h
 | succ d ih => exact earshotref03_Log.mono _ _ _ ih
theorem ref_log_one {k : Nat} (hk : 110 ≤ k) : earshotref03_Log.f k 1 = some 0 := by
 have h := ref_log_K (x := 1) (by decide) hk
 rw [show logN 1 = 0 by decide +kernel] at h
 exact h
theorem rlogs_l0 (l : List Int) (hw : In64 l) (hl : l.length ≤ 1000) : ∀ e k i, i + e = l.length → e + 120 ≤ k →
  earshotref12_Logs.l0 k l ((logsL l).take i) (i : Int) = some (logsL l) := by
 intro e
 induction e with
 | zero =>
   intro k i hi hk
   obtain ⟨k, rfl⟩ : ∃ j, k = j + 1 := ⟨k - 1, by omega⟩
   obtain rfl : i = l.length := by omega
   rw [earshotref12_Logs.l0, if_neg (by omega), List.take_of_length_le (by rw [logsL_length]; exact Nat.le_refl _)]
 | succ e ih =>
   intro k i hi hk
   obtain ⟨k, rfl⟩ : ∃ j, k = j + 1 := ⟨k - 1, by omega⟩
   have hlt : i < l.length := by omega
   have c1 : (i : Int) < (l.length : Int) := by omega
   have c2 : (0 : Int) ≤ (i : Int) := by omega
   have c4 : ((logsL l).take i).length < 17592186044416 := by rw [List.length_take, logsL_length]; omega
   have hw1 : wrap64 ((i : Int) + 1) = ((i + 1 : Nat) : Int) := by unfold wrap64; omega
   have hk110 : 110 ≤ k := by omega
   have hgo := ih k (i + 1) (by omega) (by omega)
   have hr : rd l (i : Int) = l.getD i 0 := by unfold rd; rw [Int.toNat_natCast]
   have hx := hw.getD i
   have hx0 : -9223372036854775808 ≤ l.getD i 0 := by rw [← hx]; exact W_lo _
   have hx1 : l.getD i 0 ≤ 9223372036854775807 := by rw [← hx]; exact W_hi _
   have hs : (logsL l).take i ++ [logV (l.getD i 0)] = (logsL l).take (i + 1) := by
    rw [← logsL_getD l i hlt, List.take_succ_eq_append_getElem (by rw [logsL_length]; exact hlt), List.getD_eq_getElem?_getD, List.getElem?_eq_getElem (by rw [logsL_length]; exact hlt), Option.getD_some]
   rw [earshotref12_Logs.l0, if_pos c1, if_pos c2, hr]
   obtain ⟨a1, a2⟩ := logV_arg hx0 hx1
   by_cases hp : l.getD i 0 > 0
   ·
    have ha : IntKind.u64.wrap (IntKind.u64.wrap (l.getD i 0) + 1) = (((if l.getD i 0 < 0 then 0 else l.getD i 0).toNat + 1 : Nat) : Int) := by
     rw [IntKind.wrap_u64, IntKind.wrap_u64, if_neg (by omega)]; clear a1 a2 hgo; omega
    rw [if_pos hp, ha, ref_log_K a2 hk110, bsome, if_pos c4, hw1]
    unfold logV at hs
    rw [hs]
    exact hgo
   ·
    have hv : logV (l.getD i 0) = 0 := by
     have := (logV_le hx0 hx1).2.2.1 (by omega)
     exact this
    rw [if_neg hp, ref_log_one hk110, bsome, if_pos c4, hw1]
    rw [hv] at hs
    rw [hs]
    exact hgo
theorem rlogs_f (l : List Int) (hw : In64 l) (hl : l.length ≤ 1000) : earshotref12_Logs.f 1200 l = some (logsL l) := by
 unfold earshotref12_Logs.f
 exact rlogs_l0 l hw hl l.length 1200 0 (by omega) (by omega)
theorem rrow_fin4 : ∀ k : Fin 4, earshotref12_Row.f 60 ((k.1 : Nat) : Int) 4 = some (dctRow k.1 4) := by decide +kernel
theorem rrow_fin8 : ∀ k : Fin 8, earshotref12_Row.f 60 ((k.1 : Nat) : Int) 8 = some (dctRow k.1 8) := by decide +kernel
theorem rrow_fin16 : ∀ k : Fin 16, earshotref12_Row.f 60 ((k.1 : Nat) : Int) 16 = some (dctRow k.1 16) := by decide +kernel
theorem rmay_f (n : Int) : earshotref12_May.f n = some (mayB n.toNat) := by
 unfold earshotref12_May.f mayB
 by_cases h4 : n = 4
 · subst h4; rfl
 by_cases h8 : n = 8
 · subst h8; rfl
 by_cases h16 : n = 16
 · subst h16; rfl
 rw [if_neg h4, if_neg h8]
 have e4 : (n.toNat == 4) = false := by simp; omega
 have e8 : (n.toNat == 8) = false := by simp; omega
 have e16 : (n.toNat == 16) = false := by simp; omega
 have e : (n == 16) = false := by simp; omega
 rw [e4, e8, e16, e]; rfl
theorem rrow_0 (a0 a1 : Int) : earshotref12_Row.f 60 a0 a1 = some (rowF a0 a1) := by
 unfold rowF
 by_cases h : rowMay a0 a1 = true
 ·
  rw [if_pos h]
  simp only [rowMay, Bool.and_eq_true, decide_eq_true_eq] at h
  obtain ⟨k, rfl⟩ := Int.eq_ofNat_of_zero_le h.1.2
  obtain ⟨n, rfl⟩ := Int.eq_ofNat_of_zero_le (show 0 ≤ a1 by omega)
  simp only [Int.toNat_natCast] at h ⊢
  rcases mayB_cases h.1.1 with rfl | rfl | rfl
  · exact rrow_fin4 ⟨k, by omega⟩
  · exact rrow_fin8 ⟨k, by omega⟩
  · exact rrow_fin16 ⟨k, by omega⟩
 ·
  rw [if_neg h]
  have hj : earshotref12_Row.j0 60 a0 a1 true = some [] := by rw [earshotref12_Row.j0, if_pos rfl]
  unfold earshotref12_Row.f
  rw [rmay_f, bsome]
  cases hb : mayB a1.toNat
  · rw [if_neg (by decide), hj]
  ·
   rw [if_pos rfl]
   by_cases c1 : a0 < 0
   · rw [if_pos c1, hj]
   ·
    rw [if_neg c1, decide_eq_true (show a0 ≥ a1 from ?_), hj]
    apply Classical.byContradiction; intro c2; apply h
    unfold rowMay; rw [hb]; simp only [Bool.true_and, Bool.and_eq_true, decide_eq_true_eq]; omega
theorem rrow_f (a0 a1 : Int) : ∀ k, 60 ≤ k → earshotref12_Row.f k a0 a1 = some (rowF a0 a1) := by
 intro k hk
 obtain ⟨d, rfl⟩ := Nat.exists_eq_add_of_le hk
 clear hk
 induction d with
 | zero => exact rrow_0 a0 a1
 | succ d ih => exact earshotref12_Row.mono _ _ _ _ ih
theorem rdct_l1 (c : Int) (l out : List Int) (i n : Nat) (hl : l.length = n) (hn : n ≤ 16) (ho : out.length ≤ 16) (hi : i ≤ 16) : ∀ d j k, j + d = n → 100 + d ≤ k →
  ∃ k', k ≤ k' + d + 1 ∧ earshotref12_Dct.l1 k c l out (i : Int) (dctRow i n) (dS (dctRow i n) l j) (j : Int) = earshotref12_Dct.l0 k' c l (out ++ [dctV l i]) ((i + 1 : Nat) : Int) := by
 intro d
 induction d with
 | zero =>
   intro j k hj hk
   obtain ⟨k, rfl⟩ : ∃ m, k = m + 1 := ⟨k - 1, by omega⟩
   obtain rfl : j = n := by omega
   have hw1 : wrap64 ((i : Int) + 1) = ((i + 1 : Nat) : Int) := by unfold wrap64; omega
   have hh := rhalf_f (dS_in (dctRow i j) l j) 14 (by decide) k (by omega)
   have e14 : ((14 : Nat) : Int) = 14 := rfl
   have e2 : ((2 ^ 14 : Nat) : Int) = 16384 := by decide
   rw [e14, e2] at hh
   refine ⟨k, Nat.le_refl _, ?_⟩
   rw [earshotref12_Dct.l1, if_neg (by rw [hl]; omega), hh, bsome, if_pos (by omega), hw1]
   unfold dctV
   rw [hl]
 | succ d ih =>
   intro j k hj hk
   obtain ⟨k, rfl⟩ : ∃ m, k = m + 1 := ⟨k - 1, by omega⟩
   have hw1 : wrap64 ((j : Int) + 1) = ((j + 1 : Nat) : Int) := by unfold wrap64; omega
   have c1 : (j : Int) < (l.length : Int) := by rw [hl]; omega
   have c2 : (0 : Int) ≤ (j : Int) := by omega
   have c3 : (j : Int) < ((dctRow i n).length : Int) := by rw [dctRow_length]; omega
   obtain ⟨k', h1, h2⟩ := ih (j + 1) k (by omega) (by omega)
   refine ⟨k', by omega, ?_⟩
   rw [earshotref12_Dct.l1, if_pos c1, if_pos c2, if_pos c3, hw1]
   have e : wrap64 (dS (dctRow i n) l j + wrap64 (rd l (j : Int) * rd (dctRow i n) (j : Int))) = dS (dctRow i n) l (j + 1) := by
    unfold rd; rw [Int.toNat_natCast, Int.mul_comm]; rfl
   rw [e]
   exact h2
theorem dctL_snoc (l : List Int) (i : Nat) : dctL i l ++ [dctV l i] = dctL (i + 1) l := by unfold dctL; rw [List.range_succ, List.map_append]; rfl
theorem rdct_l0 (c n : Nat) (l : List Int) (hl : l.length = n) (hm : mayB n = true) (hc : c ≤ n) : ∀ e i k, i + e = c → 200 + 40 * e ≤ k → earshotref12_Dct.l0 k (c : Int) l (dctL i l) (i : Int) = some (dctL c l) := by
 have hn : n ≤ 16 := by rcases mayB_cases hm with rfl | rfl | rfl <;> omega
 intro e
 induction e with
 | zero =>
   intro i k hi hk
   obtain ⟨k, rfl⟩ : ∃ m, k = m + 1 := ⟨k - 1, by omega⟩
   obtain rfl : i = c := by omega
   rw [earshotref12_Dct.l0, if_neg (by omega)]
 | succ e ih =>
   intro i k hi hk
   obtain ⟨k, rfl⟩ : ∃ m, k = m + 1 := ⟨k - 1, by omega⟩
   have hr := rrow_f (i : Int) (n : Int) k (by omega)
   rw [rowF_yes hm (by omega)] at hr
   obtain ⟨k', h1, h2⟩ := rdct_l1 (c : Int) l (dctL i l) i n hl hn (by simp [dctL]; omega) (by omega) n 0 k (by omega) (by omega)
   rw [earshotref12_Dct.l0, if_pos (by omega), hl, hr, bsome]
   have e0 : dS (dctRow i n) l 0 = 0 := rfl
   rw [e0, show ((0 : Nat) : Int) = 0 from rfl] at h2
   rw [h2, dctL_snoc]
   exact ih (i + 1) k' (by omega) (by omega)
theorem rdct_f (a0 : Int) (l : List Int) : earshotref12_Dct.f 1000 a0 l = some (dctF a0 l) := by
 unfold earshotref12_Dct.f dctF
 rw [rmay_f, Int.toNat_natCast, bsome]
 by_cases h : dctMay a0 l.length = true
 ·
  rw [if_pos h]
  simp only [dctMay, Bool.and_eq_true, decide_eq_true_eq] at h
  obtain ⟨c, rfl⟩ := Int.eq_ofNat_of_zero_le (show 0 ≤ a0 by omega)
  have hn : l.length ≤ 16 := by rcases mayB_cases h.1.1 with h | h | h <;> omega
  rw [h.1.1, if_pos rfl, if_neg (by omega), decide_eq_false (by omega), earshotref12_Dct.j0, if_neg (by decide), Int.toNat_natCast]
  exact rdct_l0 c l.length l rfl h.1.1 (by omega) c 0 999 (by omega) (by omega)
 ·
  rw [if_neg h]
  have hj : earshotref12_Dct.j0 1000 a0 l true = some [] := by rw [earshotref12_Dct.j0, if_pos rfl]
  cases hb : mayB l.length
  · rw [if_neg (by decide), hj]
  ·
   rw [if_pos rfl]
   by_cases c1 : a0 < 1
   · rw [if_pos c1, hj]
   ·
    rw [if_neg c1, decide_eq_true (show a0 > (l.length : Int) from ?_), hj]
    apply Classical.byContradiction; intro c2; apply h
    unfold dctMay; rw [hb]; simp only [Bool.true_and, Bool.and_eq_true, decide_eq_true_eq]; omega
theorem dctF_length (a0 : Int) (l : List Int) : (dctF a0 l).length ≤ 16 := by
 unfold dctF
 split
 ·
  rename_i h
  simp only [dctMay, Bool.and_eq_true, decide_eq_true_eq] at h
  have hn : l.length ≤ 16 := by rcases mayB_cases h.1.1 with h | h | h <;> omega
  simp [dctL]; omega
 · simp
theorem rowF_length (a0 a1 : Int) : (rowF a0 a1).length ≤ 16 := by
 unfold rowF
 split
 ·
  rename_i h
  simp only [rowMay, Bool.and_eq_true, decide_eq_true_eq] at h
  rw [dctRow_length]
  rcases mayB_cases h.1.1 with h | h | h <;> omega
 · simp
theorem ref_right (s h b c p : Int) : earshotref13_Right.f s h b c p = some (rightB s h b c p) := rfl
theorem rin_f (x : Int) : earshotref13_in.f x (-65536) 65536 = some (!(badLV x)) := by
 unfold earshotref13_in.f badLV
 by_cases h1 : x ≥ -65536
 ·
  rw [if_pos h1, decide_eq_false (show ¬ x < -65536 by omega)]
  by_cases h2 : x ≤ 65536
  · rw [decide_eq_true h2, decide_eq_false (show ¬ 65536 < x by omega)]; rfl
  · rw [decide_eq_false h2, decide_eq_true (show 65536 < x by omega)]; rfl
 · rw [if_neg h1, decide_eq_true (show x < -65536 by omega)]; rfl
theorem rall_l0 (ys : List Int) (hl : ys.length ≤ 1000) : ∀ (d n k : Nat), n + d = ys.length → d + 1 ≤ k → earshotref13_All.l0 k ys (-65536) 65536 (n : Int) = some (!((ys.drop n).any badLV))
 | 0, n, k, hn, hk => by
   obtain ⟨k, rfl⟩ : ∃ q, k = q + 1 := ⟨k - 1, by omega⟩
   rw [earshotref13_All.l0, if_neg (by omega), List.drop_of_length_le (by omega)]
   rfl
 | d + 1, n, k, hn, hk => by
   obtain ⟨k, rfl⟩ : ∃ q, k = q + 1 := ⟨k - 1, by omega⟩
   have e1 : wrap64 ((n : Int) + 1) = ((n + 1 : Nat) : Int) := by unfold wrap64; omega
   have hd : ys.drop n = ys.getD n 0 :: ys.drop (n + 1) := by
    rw [List.getD_eq_getElem?_getD, List.getElem?_eq_getElem (by omega)]
    exact List.drop_eq_getElem_cons (by omega)
   have ih := rall_l0 ys hl d (n + 1) k (by omega) (by omega)
   rw [earshotref13_All.l0, if_pos (by omega), if_pos (by omega), rd_nat, rin_f, bsome, hd, List.any_cons, e1, ih]
   cases badLV (ys.getD n 0)
   · rw [Bool.not_false, if_pos rfl, Bool.false_or]
   · rw [Bool.not_true, if_neg (by decide)]; rfl
theorem rall_f (ys : List Int) (hl : ys.length ≤ 1000) (k : Nat) (hk : 1001 ≤ k) : earshotref13_All.f k ys (-65536) 65536 = some (lvl ys) := by
 have h := rall_l0 ys hl ys.length 0 k (by omega) (by omega)
 rw [List.drop_zero] at h
 exact h
theorem rwin_f (s : Int) (h : sizeB s = true) (k : Nat) (hk : 200 ≤ k) : earshotref04_Window.f k s = some (winList s) := by
 have h0 : s = 16 ∨ s = 32 ∨ s = 64 := by simp [sizeB] at h; omega
 refine up_ (f := fun k => earshotref04_Window.f k s) (fun k => earshotref04_Window.mono _ k) (k := 200) ?_ hk
 rcases h0 with rfl | rfl | rfl
 · decide +kernel
 · decide +kernel
 · decide +kernel
theorem mid_get (G L : List Int) (n : Nat) (hG : n < G.length) (hL : n < L.length) : (G.take n ++ L.drop n).getD n 0 = L.getD n 0 := by
 rw [List.getD_eq_getElem?_getD, List.getElem?_append_right (by rw [List.length_take]; omega), List.length_take, List.getElem?_drop, List.getD_eq_getElem?_getD]
 congr 2
 omega
theorem mid_set (G L : List Int) (n : Nat) (hG : n < G.length) (hL : n < L.length) : (G.take n ++ L.drop n).set n (G.getD n 0) = G.take (n + 1) ++ L.drop (n + 1) := by
 have e1 : G.take (n + 1) = G.take n ++ [G.getD n 0] := by
  rw [List.take_add_one, List.getD_eq_getElem?_getD, List.getElem?_eq_getElem hG]; rfl
 have e2 : L.drop n = L.getD n 0 :: L.drop (n + 1) := by
  rw [List.getD_eq_getElem?_getD, List.getElem?_eq_getElem hL]
  exact List.drop_eq_getElem_cons hL
 rw [e1, e2, List.set_append_right _ _ (by rw [List.length_take]; omega), List.length_take, show n - min n G.length = 0 by omega, List.set_cons_zero, List.append_assoc]
 rfl
theorem rframe_l1 (s h b c p sh : Int) (re im L G : List Int) (B : Nat) (hL : L.length = B) (hG : G.length = B) (hB : B ≤ 16) (hx : ∀ j, j < B → G.getD j 0 = frameA (L.getD j 0) sh) :
  ∀ (d n k : Nat), n + d = B → 2000 + d ≤ k → earshotref13_Frame.l1 k (G.take n ++ L.drop n) (n : Int) s h b c p re im sh = some (dctF c G)
 | 0, n, k, hn, hk => by
   obtain ⟨k, rfl⟩ : ∃ q, k = q + 1 := ⟨k - 1, by omega⟩
   have e : G.take n ++ L.drop n = G := by rw [List.take_of_length_le (by omega), List.drop_of_length_le (by omega), List.append_nil]
   rw [e, earshotref13_Frame.l1, if_neg (by omega), up_ (f := fun k => earshotref12_Dct.f k c G) (fun k => earshotref12_Dct.mono _ _ k) (rdct_f c G) (by omega), bsome]
 | d + 1, n, k, hn, hk => by
   obtain ⟨k, rfl⟩ : ∃ q, k = q + 1 := ⟨k - 1, by omega⟩
   have e1 : wrap64 ((n : Int) + 1) = ((n + 1 : Nat) : Int) := by unfold wrap64; omega
   have hlen : (G.take n ++ L.drop n).length = B := by rw [List.length_append, List.length_take, List.length_drop]; omega
   have hv : wrap64 (L.getD n 0 + wrap64 (512 * sh)) = G.getD n 0 := (hx n (by omega)).symm
   rw [earshotref13_Frame.l1, if_pos (by omega), if_pos (by omega), rd_nat, Int.toNat_natCast, mid_get G L n (by omega) (by omega), hv, mid_set G L n (by omega) (by omega), e1]
   exact rframe_l1 s h b c p sh re im L G B hL hG hB hx d (n + 1) k (by omega) (by omega)
theorem rframe_l0 (s h b c p : Int) (N : Nat) (ys z out : List Int) (hs : (N : Int) = s) (hy : ys.length = N) (hw : (winList s).length = N) (hv : lvl ys = true) (hN : N ≤ 64) (hz : frameZ s ys = z)
  (hT : ∀ k, 3000 ≤ k → ((earshotref10_Bins.f k z).bind fun bt254 => ((earshotref10_Power.f k bt254.1 bt254.2.1).bind fun t262 => ((earshotref11_Edges.f k (wrap64 ((wrap64 (Int.tdiv s 2)) + 1)) b).bind fun t265 => ((earshotref11_Bands.f t262 t265).bind fun t268 => ((earshotref12_Logs.f k t268).bind fun t271 => (earshotref13_Frame.l1 k t271 0 s h b c p bt254.1 bt254.2.1 bt254.2.2)))))) = some out) :
  ∀ (d n k : Nat), n + d = N → 3100 + d ≤ k → earshotref13_Frame.l0 k ys (winList s) (z.take n) (n : Int) s h b c p = some out
 | 0, n, k, hn, hk => by
   obtain ⟨k, rfl⟩ : ∃ q, k = q + 1 := ⟨k - 1, by omega⟩
   have hzl : z.length = N := by rw [← hz, frameZ_length]; omega
   rw [List.take_of_length_le (by omega), earshotref13_Frame.l0, if_neg (by omega)]
   exact hT k (by omega)
 | d + 1, n, k, hn, hk => by
   obtain ⟨k, rfl⟩ : ∃ q, k = q + 1 := ⟨k - 1, by omega⟩
   have hzl : z.length = N := by rw [← hz, frameZ_length]; omega
   have e1 : wrap64 ((n : Int) + 1) = ((n + 1 : Nat) : Int) := by unfold wrap64; omega
   have hps := prod_small (lvl_at hv n) (winList_in s n)
   have e2 : wrap64 (ys.getD n 0 * (winList s).getD n 0) = ys.getD n 0 * (winList s).getD n 0 := by
    generalize ys.getD n 0 * (winList s).getD n 0 = q at hps
    unfold wrap64; omega
   have e3 := rhalf_f (x := ys.getD n 0 * (winList s).getD n 0) ⟨by omega, by omega⟩ 14 (by omega) k (by omega)
   rw [show ((2 ^ 14 : Nat) : Int) = 16384 by decide, ← frameZ_at s ys n (by omega), hz] at e3
   have e4 : z.take n ++ [z.getD n 0] = z.take (n + 1) := by
    rw [List.take_add_one, List.getD_eq_getElem?_getD, List.getElem?_eq_getElem (by omega)]; rfl
   rw [earshotref13_Frame.l0, if_pos (by omega), if_pos (by omega), if_pos (by omega), if_pos (by omega), rd_nat, rd_nat, e2]
   rw [show ((14 : Nat) : Int) = 14 by rfl] at e3
   rw [e3, bsome, if_pos (by rw [List.length_take]; omega), e4, e1]
   exact rframe_l0 s h b c p N ys z out hs hy hw hv hN hz hT d (n + 1) k (by omega) (by omega)
theorem rframe_yes (s h b c p : Int) (ys : List Int) (hr : rightB s h b c p = true) (hv : lvl ys = true) (hl : (ys.length : Int) = s) (k : Nat) (hk : 3200 ≤ k) : earshotref13_Frame.l0 k ys (winList s) [] 0 s h b c p = some (frameL s b c ys) := by
 have hr0 := hr
 simp only [rightB, Bool.and_eq_true, decide_eq_true_eq] at hr0
 obtain ⟨⟨⟨⟨⟨⟨⟨r0, r1⟩, r2⟩, r3⟩, r4⟩, r5⟩, r6⟩, r7⟩ := hr0
 obtain ⟨N, hs⟩ : ∃ N : Nat, (N : Int) = s := ⟨ys.length, hl⟩
 have hlN : ys.length = N := by omega
 have hN : N = 16 ∨ N = 32 ∨ N = 64 := by simp [sizeB] at r0; omega
 obtain ⟨B, hb⟩ : ∃ B : Nat, (B : Int) = b := ⟨b.toNat, by rcases mayB_cases r3 with h | h | h <;> omega⟩
 have hBm : B = 4 ∨ B = 8 ∨ B = 16 := by rcases mayB_cases r3 with h | h | h <;> omega
 have hmay : fftMay N = true := by rcases hN with rfl | rfl | rfl <;> decide
 have hsN : s.toNat = N := by omega
 have hbB : b.toNat = B := by omega
 obtain ⟨H1, hH⟩ : ∃ H1, N / 2 + 1 = H1 := ⟨_, rfl⟩
 have hN0 : 16 ≤ N := by omega
 have hN1 : N ≤ 64 := by omega
 have hB1 : B ≤ 16 := by omega
 have hH33 : H1 ≤ 33 := by omega
 obtain ⟨re, im, sh, hB⟩ : ∃ re im sh, binsF (frameZ s ys) = (re, im, sh) := ⟨_, _, _, rfl⟩
 have hed : (edgesF (s / 2 + 1) b).length = B + 2 := by
  unfold edgesF
  rw [if_pos (by simp only [mayE, Bool.and_eq_true, decide_eq_true_eq]; omega)]
  simp [edgesL]; omega
 have hG1 : frameG s b (frameZ s ys) = (List.range B).map fun m => frameA ((logsL (bandsL (powL re im) (edgesF (s / 2 + 1) b))).getD m 0) sh := by
  unfold frameG frameB
  rw [hbB, hB]
 have hzl : (frameZ s ys).length = N := by rw [frameZ_length, hsN]
 have hrl : re.length = H1 := by
  have e1 : re = (binsF (frameZ s ys)).1 := by rw [hB]
  rw [e1, binsF, hzl, if_pos hmay]; show (halfL _ _).length = _; rw [halfL, List.length_map, partsRe_length, hH]
 have hil : im.length = H1 := by
  have e1 : im = (binsF (frameZ s ys)).2.1 := by rw [hB]
  rw [e1, binsF, hzl, if_pos hmay]; show (halfL _ _).length = _; rw [halfL, List.length_map, partsIm_length, hH]
 have hpl : (powL re im).length = H1 := by rw [powL_length (by rw [hrl, hil]), hrl]
 have hbl : (bandsL (powL re im) (edgesF (s / 2 + 1) b)).length = B := by simp [bandsL, hed]
 have hgl : (frameG s b (frameZ s ys)).length = B := by rw [frameG_length, hbB]
 have hga : ∀ m, m < B → (frameG s b (frameZ s ys)).getD m 0 = frameA ((logsL (bandsL (powL re im) (edgesF (s / 2 + 1) b))).getD m 0) sh := fun m hm => by rw [hG1]; exact getD_map_range B (fun m => frameA ((logsL (bandsL (powL re im) (edgesF (s / 2 + 1) b))).getD m 0) sh) m hm
 have hll : (logsL (bandsL (powL re im) (edgesF (s / 2 + 1) b))).length = B := by rw [logsL_length, hbl]
 have hwl : (winList s).length = N := by rw [winList_len, if_pos r0, hsN]
 have hd2 : wrap64 ((wrap64 (Int.tdiv s 2)) + 1) = s / 2 + 1 := by
  rcases hN with rfl | rfl | rfl <;> (rw [← hs]; decide +kernel)
 have hzin : In64 (frameZ s ys) := frameZ_in s ys hv
 have hfl : frameL s b c ys = dctF c (frameG s b (frameZ s ys)) := rfl
 obtain ⟨Z, hZ⟩ : ∃ Z, frameZ s ys = Z := ⟨_, rfl⟩
 rw [hfl]
 refine rframe_l0 s h b c p N ys Z _ hs hlN hwl hv hN1 hZ ?_ N 0 k (by omega) (by omega)
 intro k hk
 rw [hZ] at hB hzin hzl hga hgl ⊢
 have hbn := rbins_f Z hzin (by omega) (k - 2100)
 rw [show k - 2100 + 2100 = k by omega, hB] at hbn
 rw [hbn, bsome]
 show ((earshotref10_Power.f k re im).bind fun t262 => _) = _
 rw [rpow_f re im (by rw [hrl, hil]) (by omega) k (by omega), bsome, hd2, up_ (f := fun k => earshotref11_Edges.f k (s / 2 + 1) b) (fun k => earshotref11_Edges.mono _ _ k) (redges_f _ _) (by omega), bsome]
 have hbd : earshotref11_Bands.f (powL re im) (edgesF (s / 2 + 1) b) = some (bandsL (powL re im) (edgesF (s / 2 + 1) b)) := by
  unfold earshotref11_Bands.f
  rw [if_pos (by simp only [Bool.and_eq_true, decide_eq_true_eq]; omega)]
 rw [hbd, bsome, up_ (f := fun k => earshotref12_Logs.f k (bandsL (powL re im) (edgesF (s / 2 + 1) b))) (fun k => earshotref12_Logs.mono _ k) (rlogs_f _ (bandsL_in _ _) (by omega)) (by omega), bsome]
 have h1 := rframe_l1 s h b c p sh re im (logsL (bandsL (powL re im) (edgesF (s / 2 + 1) b))) (frameG s b Z) B hll hgl hB1 hga B 0 k (by omega) (by omega)
 rw [List.take_zero, List.drop_zero, List.nil_append] at h1
 exact h1
theorem rframe_f (s h b c p : Int) (ys : List Int) (hl : ys.length ≤ 1000) (k : Nat) (hk : 5000 ≤ k) : earshotref13_Frame.f k s h b c p ys = some (frameF s h b c p ys) := by
 obtain ⟨k, rfl⟩ : ∃ q, k = q + 1 := ⟨k - 1, by omega⟩
 have e0 : earshotref13_Frame.j0 (k + 1) ys true s h b c p = some [] := by rw [earshotref13_Frame.j0, if_pos rfl]
 unfold earshotref13_Frame.f
 rw [ref_right, bsome, rall_f ys hl (k + 1) (by omega), bsome]
 by_cases hok : frameOk s h b c p ys = true
 ·
  have hok0 := hok
  unfold frameF
  rw [if_pos hok]
  simp only [frameOk, Bool.and_eq_true, decide_eq_true_eq] at hok0
  obtain ⟨⟨hr, hlen⟩, hv⟩ := hok0
  have r0 : sizeB s = true := by
   have hr0 := hr
   simp only [rightB, Bool.and_eq_true, decide_eq_true_eq] at hr0
   exact hr0.1.1.1.1.1.1.1
  rw [if_pos hr, if_pos hv, earshotref13_Frame.j0, if_neg (by simp [hlen]), rwin_f s r0 k (by omega), bsome]
  exact rframe_yes s h b c p ys hr hv hlen k (by omega)
 ·
  have hf : frameF s h b c p ys = [] := by unfold frameF; rw [if_neg hok]
  rw [hf]
  by_cases hr : rightB s h b c p = true
  ·
   rw [if_pos hr]
   by_cases hv : lvl ys = true
   ·
    rw [if_pos hv]
    have hne : ((ys.length : Int) != s) = true := by
     rw [bne_iff_ne]
     intro e
     exact hok (by simp only [frameOk, Bool.and_eq_true, decide_eq_true_eq]; exact ⟨⟨hr, e⟩, hv⟩)
    rw [hne, e0]
   · rw [if_neg hv, e0]
  · rw [if_neg hr, e0]
theorem rwhole_l0 (s h b c p : Int) (l : List Int) (hl : l.length ≤ 1000) (hs : 0 ≤ s ∧ s ≤ 1000) (hh : 1 ≤ h) (hhs : h ≤ s) (F : List (List Int)) (hF : frsL s h b c p l = F) :
  ∀ (d n k : Nat), n + d = F.length → 6000 + d ≤ k → earshotref13_Whole.l0 k l (flatL p 0 l) (F.take n) (n : Int) s h b c p = some F
 | 0, n, k, hn, hk => by
   obtain ⟨k, rfl⟩ : ∃ q, k = q + 1 := ⟨k - 1, by omega⟩
   have hc := frsL_len (s := s) (h := h) (b := b) (c := c) (p := p) hh hhs l
   rw [hF] at hc
   rw [List.take_of_length_le (by omega), earshotref13_Whole.l0, rframes_f s h b c p (l.length : Int) hs hh (by omega) (by omega), bsome, if_neg (by omega)]
 | d + 1, n, k, hn, hk => by
   obtain ⟨k, rfl⟩ : ∃ q, k = q + 1 := ⟨k - 1, by omega⟩
   have hc := frsL_len (s := s) (h := h) (b := b) (c := c) (p := p) hh hhs l
   rw [hF] at hc
   have hF2 : F.length ≤ 2000 := by
    have := framesI_mul (s := s) (h := h) (n := (l.length : Int)) hs.1 hh hhs (by omega)
    have h4 : framesI s h (l.length : Int) * 1 ≤ framesI s h (l.length : Int) * h := Int.mul_le_mul_of_nonneg_left hh (framesI_nn hh)
    omega
   have e1 : wrap64 ((n : Int) + 1) = ((n + 1 : Nat) : Int) := by unfold wrap64; omega
   have hb : (n : Int) * h + s ≤ (l.length : Int) := by
    have hfi : framesI s h (l.length : Int) = ((l.length : Int) - s) / h + 1 := by
     unfold framesI
     split
     ·
      rename_i h0
      unfold framesI at hc
      rw [if_pos h0] at hc
      omega
     · rfl
    have h1 : (n : Int) ≤ ((l.length : Int) - s) / h := by omega
    have h2 : (n : Int) * h ≤ ((l.length : Int) - s) / h * h := Int.mul_le_mul_of_nonneg_right h1 (by omega)
    have h3 := Int.ediv_mul_le ((l.length : Int) - s) (show h ≠ 0 by omega)
    omega
   have hm0 : 0 ≤ (n : Int) * h := Int.mul_nonneg (by omega) (by omega)
   have hmn : ((n : Int) * h).toNat = n * h.toNat := by
    rw [Int.toNat_mul (by omega) (by omega), Int.toNat_natCast]
   have hfr := frsL_at (s := s) (h := h) (b := b) (c := c) (p := p) hh hhs l n (by rw [hF]; omega)
   rw [hF] at hfr
   obtain ⟨m, hm⟩ : ∃ q, (n : Int) * h = q := ⟨_, rfl⟩
   rw [hm] at hb hm0 hmn
   have e2 : wrap64 m = m := by unfold wrap64; omega
   have e3 : wrap64 (m + s) = m + s := by unfold wrap64; omega
   have hfl : (flatL p 0 l).length = l.length := flatL_length p 0 l
   have e4 : ((flatL p 0 l).take (m + s).toNat).drop m.toNat = ((flatL p 0 l).drop (n * h.toNat)).take s.toNat := by
    rw [List.drop_take, hmn, show (m + s).toNat - n * h.toNat = s.toNat by omega]
   have e5 : F.take n ++ [F.getD n []] = F.take (n + 1) := by
    rw [List.take_add_one, List.getD_eq_getElem?_getD, List.getElem?_eq_getElem (by omega)]; rfl
   rw [earshotref13_Whole.l0, rframes_f s h b c p (l.length : Int) hs hh (by omega) (by omega), bsome, if_pos (by omega), hm, e2, e3, if_pos (by omega), if_pos (by omega), if_pos (by rw [hfl]; omega), e4, rframe_f s h b c p _ (by rw [List.length_take]; omega) k (by omega), bsome, if_pos (by rw [List.length_take]; omega), ← hfr, e5, e1]
   exact rwhole_l0 s h b c p l hl hs hh hhs F hF d (n + 1) k (by omega) (by omega)
theorem rwhole_f (s h b c p : Int) (l : List Int) (hl : l.length ≤ 1000) (hok : l.any badPU = false) (hp : 0 ≤ p ∧ p < 32768) (hs : 0 ≤ s ∧ s ≤ 1000) (hh : 1 ≤ h) (hhs : h ≤ s) : earshotref13_Whole.f 9000 s h b c p l = some (frsL s h b c p l) := by
 have hc := frsL_len (s := s) (h := h) (b := b) (c := c) (p := p) hh hhs l
 have hF2 : (frsL s h b c p l).length ≤ 2000 := by
  have := framesI_mul (s := s) (h := h) (n := (l.length : Int)) hs.1 hh hhs (by omega)
  have h4 : framesI s h (l.length : Int) * 1 ≤ framesI s h (l.length : Int) * h := Int.mul_le_mul_of_nonneg_left hh (framesI_nn hh)
  omega
 unfold earshotref13_Whole.f
 rw [rflat_f s h b c p l hl hok hp 9000 (by omega), bsome]
 exact rwhole_l0 s h b c p l hl hs hh hhs _ rfl (frsL s h b c p l).length 0 9000 (by omega) (by omega)
theorem frs_nil {s h b c p : Int} (hs : 1 ≤ s) : frsL s h b c p [] = [] := by
 unfold frsL
 rw [show flatL p 0 [] = [] from rfl, cutA_no _ (by show 0 < s.toNat; omega)]
theorem frameF_le (s h b c p : Int) (ys : List Int) : (frameF s h b c p ys).length ≤ 100 := by
 by_cases hok : frameOk s h b c p ys = true
 ·
  rw [frameF_len hok]
  simp only [frameOk, Bool.and_eq_true] at hok
  have hr := hok.1.1
  simp only [rightB, Bool.and_eq_true, decide_eq_true_eq] at hr
  obtain ⟨⟨⟨⟨⟨⟨⟨r0, r1⟩, r2⟩, r3⟩, r4⟩, r5⟩, r6⟩, r7⟩ := hr
  rcases mayB_cases r3 with h | h | h <;> omega
 ·
  unfold frameF
  rw [if_neg hok]
  decide
theorem rows_l0 (T : List (List Int)) (hT : T.length ≤ 1000) (hR : ∀ r ∈ T, r.length ≤ 1000) : ∀ (d n k : Nat), n + d = T.length → 2000 + d ≤ k → earshotlaw13_rows.l0 k T T (n : Int) = some true
 | 0, n, k, hn, hk => by
   obtain ⟨k, rfl⟩ : ∃ q, k = q + 1 := ⟨k - 1, by omega⟩
   rw [earshotlaw13_rows.l0, if_neg (by omega)]
 | d + 1, n, k, hn, hk => by
   obtain ⟨k, rfl⟩ : ∃ q, k = q + 1 := ⟨k - 1, by omega⟩
   have e1 : wrap64 ((n : Int) + 1) = ((n + 1 : Nat) : Int) := by unfold wrap64; omega
   have e2 : rd_L1 T (n : Int) = T.getD n [] := by unfold rd_L1; rw [Int.toNat_natCast]
   have h1 : (T.getD n []).length ≤ 1000 := by
    rw [List.getD_eq_getElem?_getD, List.getElem?_eq_getElem (by omega)]
    exact hR _ (List.getElem_mem _)
   rw [earshotlaw13_rows.l0, if_pos (by omega), if_pos (by omega), if_pos (by omega), e2, sameK _ (by omega) (by omega), bsome, if_pos rfl, e1]
   exact rows_l0 T hT hR d (n + 1) k (by omega) (by omega)
theorem rows_f (T : List (List Int)) (hT : T.length ≤ 1000) (hR : ∀ r ∈ T, r.length ≤ 1000) : earshotlaw13_rows.f 4000 T T = some true := by
 unfold earshotlaw13_rows.f
 rw [if_pos rfl]
 exact rows_l0 T hT hR T.length 0 4000 (by omega) (by omega)
theorem cutA_rows {s h b c p : Int} (hs : 1 ≤ s.toNat) (hh : 1 ≤ h.toNat) : ∀ (n : Nat) (r : List Int), r.length ≤ n → ∀ f ∈ (cutA s h b c p r).1, f.length ≤ 100
 | n, r, hn => by
   by_cases hr : r.length < s.toNat
   · rw [cutA_no r hr]; intro f hf; cases hf
   ·
    match n, hn with
    | 0, hn => omega
    | n + 1, hn =>
      rw [cutA_yes hs hh r (by omega)]
      intro f hf
      rcases List.mem_cons.1 hf with h1 | h1
      · rw [h1]; exact frameF_le _ _ _ _ _ _
      · exact cutA_rows hs hh n (r.drop h.toNat) (by rw [List.length_drop]; omega) f h1
theorem takes_app (S : List Int) {ad e : Nat} (h : ad ≤ e) : S.take ad ++ (S.take e).drop ad = S.take e := by
 have := List.take_append_drop ad (S.take e)
 rwa [List.take_take, Nat.min_eq_left h] at this
theorem stream_step (N Hp : Nat) (b c p : Int) (S : List Int) (ad e td : Nat) (hN : 1 ≤ N) (hH1 : 1 ≤ Hp) (hHN : Hp ≤ N) (h : ad ≤ e) (he : e ≤ S.length) (htd : td = (frsL (N : Int) (Hp : Int) b c p (S.take ad)).length) :
  ∃ (T : List (List Int)) (tl fn : Nat), T.length = tl ∧ fn = td + tl ∧ frsL (N : Int) (Hp : Int) b c p (S.take ad ++ (S.take e).drop ad) = frsL (N : Int) (Hp : Int) b c p (S.take ad) ++ T ∧ fn = (frsL (N : Int) (Hp : Int) b c p (S.take e)).length ∧ ((frsL (N : Int) (Hp : Int) b c p S).take fn).drop td = T ∧ fn ≤ e + 1 ∧ framesI (N : Int) (Hp : Int) (e : Int) = (fn : Int) ∧ fn ≤ (frsL (N : Int) (Hp : Int) b c p S).length ∧ ∀ r ∈ T, r.length ≤ 1000 := by
 have h1 := (cut_step (s := (N : Int)) (h := (Hp : Int)) (b := b) (c := c) (p := p) (by omega) (by omega) (by omega) (S.take ad) ((S.take e).drop ad)).1
 have h2 := (cut_step (s := (N : Int)) (h := (Hp : Int)) (b := b) (c := c) (p := p) (by omega) (by omega) (by omega) (S.take e) (S.drop e)).1
 generalize (cutA (N : Int) (Hp : Int) b c p (rssL (N : Int) (Hp : Int) b c p (S.take ad) ++ flatL p (lastL 0 (S.take ad)) ((S.take e).drop ad))).1 = T at h1
 generalize (cutA (N : Int) (Hp : Int) b c p (rssL (N : Int) (Hp : Int) b c p (S.take e) ++ flatL p (lastL 0 (S.take e)) (S.drop e))).1 = U at h2
 have h0 := h1
 rw [takes_app S h] at h1
 rw [List.take_append_drop] at h2
 have hel : (S.take e).length = e := by rw [List.length_take]; omega
 have h3 : (frsL (N : Int) (Hp : Int) b c p (S.take e)).length = td + T.length := by rw [h1, List.length_append, ← htd]
 refine ⟨T, T.length, td + T.length, rfl, rfl, h0, h3.symm, ?_, ?_, ?_, ?_, ?_⟩
 · rw [h2, List.take_left' h3, h1, List.drop_left' htd.symm]
 ·
  have h4 := cutN_len (N : Int) (Hp : Int) b c p ((flatL p 0 (S.take e)).length + 1) (flatL p 0 (S.take e))
  have h5 : (frsL (N : Int) (Hp : Int) b c p (S.take e)).length ≤ (flatL p 0 (S.take e)).length + 1 := h4
  rw [h3, flatL_length, hel] at h5
  exact h5
 ·
  have h6 := frsL_len (s := (N : Int)) (h := (Hp : Int)) (b := b) (c := c) (p := p) (by omega) (by omega) (S.take e)
  rw [hel, h3] at h6
  exact h6.symm
 · rw [h2, List.length_append, h3]; omega
 ·
  intro r hr
  have h7 : r ∈ frsL (N : Int) (Hp : Int) b c p (S.take e) := by rw [h1]; exact List.mem_append_right _ hr
  have := cutA_rows (s := (N : Int)) (h := (Hp : Int)) (b := b) (c := c) (p := p) (by omega) (by omega) _ _ (Nat.le_refl _) r h7
  omega
theorem sound_d (A : Option Addr) (n c : Nat) (l : List Int) (W : World) (hl : l.length = n) (hC : (Kd.int .i64).C W A n l) (hc : n ≤ c) (hn : n ≤ 4000000000000000000) :
  Calls Tryd.prog 28 #[.slice A n c] W fun e w' => ∃ A1 c1, e = .returned (.slice A1 (soundL l).length c1) ∧ (soundL l).length ≤ c1 ∧ Aside0 ((Kd.int .i64).R 3 w' W.heap.size (fun _ => True) (.slice A1 (soundL l).length c1) (soundL l)) ∧ Aside0 (Below W.heap.size W w') := by
 subst hl
 refine (earshotlaw13_sound.calls 100 A c l _ W hC hc (rsound_f l hn 100 (by omega))).mono ?_
 rintro e w' ⟨v, rfl, hR, hb⟩
 obtain ⟨A1, c1, hv, h1, _⟩ := Kd.R_reads hR
 subst hv
 exact ⟨A1, c1, rfl, h1, ⟨hR⟩, ⟨hb⟩⟩
theorem whole_d (A : Option Addr) (n c : Nat) (s h b cf p : Int) (l : List Int) (W : World) (hl : l.length = n) (hC : (Kd.int .i64).C W A n l) (hc : n ≤ c) (hn : n ≤ 1000) (hok : l.any badPU = false) (hp : 0 ≤ p ∧ p < 32768) (hs : 0 ≤ s ∧ s ≤ 1000) (hh : 1 ≤ h) (hhs : h ≤ s) :
  Calls Tryd.prog 29 #[.agg #[.int .i64 s, .int .i64 h, .int .i64 b, .int .i64 cf, .int .i64 p], .slice A n c] W fun e w' => ∃ A1 c1, e = .returned (.slice A1 (frsL s h b cf p l).length c1) ∧ (frsL s h b cf p l).length ≤ c1 ∧ Aside0 (R2 w' W.heap.size (fun _ => True) (.slice A1 (frsL s h b cf p l).length c1) (frsL s h b cf p l)) ∧ Aside0 (Below W.heap.size W w') := by
 subst hl
 refine (earshotref13_Whole.calls 9000 s h b cf p A c l _ W hC hc (rwhole_f s h b cf p l hn hok hp hs hh hhs)).mono ?_
 rintro e w' ⟨v, rfl, hR, hb⟩
 obtain ⟨A1, c1, hv, h1, _⟩ := Kd.R_reads hR
 subst hv
 exact ⟨A1, c1, rfl, h1, ⟨hR⟩, ⟨hb⟩⟩
def earshotlaw13_FrontStream.f (a0_0 a0_1 a0_2 : Int) (a0_3 a0_4 : Bool) (l1 l2 : List Int) : Option (Bool) := if decide (l1.length ≤ 4000000000000000000) && decide (l2.length ≤ 4000000000000000000) then some true else none
set_option maxHeartbeats 64000000 in
set_option maxRecDepth 100000 in
theorem stream_go (A0 A2 : Option Addr) (n c0 n2 cc : Nat) (x y z : Int) (a d : Bool) (l cuts : List Int) (w : World) (hG : GlobA w) (hl : l.length = n) (hC : (Kd.int .i64).C w A0 n l) (hnc : n ≤ c0) (hn : n ≤ 4000000000000000000) (hl2 : cuts.length = n2) (hC2 : (Kd.int .i64).C w A2 n2 cuts) (hn2 : n2 ≤ 4000000000000000000) :
  Calls Tryd.prog 9 #[.agg #[.int .i64 x, .int .i64 y, .int .i64 z, .bool a, .bool d], .slice A0 n c0, .slice A2 n2 cc] w fun e w' => e = .returned (.bool true) ∧ Below w.heap.size w w' := by
 have hu39 := Tryd.underlying39
 have hu41 := Tryd.underlying41
 have hu47 := Tryd.underlying47
 have hu22 := Tryd.underlying22
 obtain ⟨N, hN⟩ : ∃ N : Nat, (N : Int) = specS a := ⟨(specS a).toNat, by cases a <;> decide⟩
 have hN1 : N = 16 ∨ N = 32 := by
  have : specS a = 16 ∨ specS a = 32 := by cases a <;> decide
  omega
 have hsr := spec_right x y z a d
 have hsp := spec_go x y z a d
 rw [← hN] at hsr hsp
 have hx0 := Int.emod_nonneg x (show (N : Int) ≠ 0 by omega)
 have hx1 := Int.emod_lt_of_pos x (show 0 < (N : Int) by omega)
 obtain ⟨Hp, hHp⟩ : ∃ H : Nat, (H : Int) = 1 + x % (N : Int) := ⟨(1 + x % (N : Int)).toNat, by omega⟩
 rw [← hHp] at hsr hsp
 have hH1 : 1 ≤ Hp := by omega
 have hHN : Hp ≤ N := by omega
 have hp0 := Int.emod_nonneg z (show (32768 : Int) ≠ 0 by decide)
 have hp1 := Int.emod_lt_of_pos z (show (0 : Int) < 32768 by decide)
 generalize specB d = b2 at hsr hsp
 generalize 1 + y % b2 = c2 at hsr hsp
 generalize z % 32768 = p2 at hsr hsp hp0 hp1
 have HSP : Aside0 (∀ W : World, Calls Tryd.prog 23 #[.agg #[.int .i64 x, .int .i64 y, .int .i64 z, .bool a, .bool d]] W fun e w' => e = .returned (.agg #[.int .i64 (N : Int), .int .i64 (Hp : Int), .int .i64 b2, .int .i64 c2, .int .i64 p2]) ∧ Below W.heap.size W w') := ⟨hsp⟩
 have HR2 := Aside0.mk hsr
 have HPP := Aside0.mk (And.intro hp0 hp1)
 have hN2 : N ≤ 32 := by omega
 have hN3 : 16 ≤ N := by omega
 have HG0 := Aside0.mk hG
 have hSl := soundL_len l
 have hSo := soundL_ok l
 have HSD : Aside0 (∀ W : World, (Kd.int .i64).C W A0 n l → Calls Tryd.prog 28 #[.slice A0 n c0] W fun e w' => ∃ A1 c1, e = .returned (.slice A1 (soundL l).length c1) ∧ (soundL l).length ≤ c1 ∧ Aside0 ((Kd.int .i64).R 3 w' W.heap.size (fun _ => True) (.slice A1 (soundL l).length c1) (soundL l)) ∧ Aside0 (Below W.heap.size W w')) := ⟨fun W hc => sound_d A0 n c0 l W hl hc hnc hn⟩
 have HC0 := Aside0.mk hC
 generalize soundL l = S at *
 obtain ⟨K, hK⟩ : ∃ k, S.length = k := ⟨_, rfl⟩
 rw [hK] at hSl
 have HWH : Aside0 (∀ (W : World) (AS : Option Addr) (cS : Nat), (Kd.int .i64).C W AS K S → K ≤ cS → Calls Tryd.prog 29 #[.agg #[.int .i64 (N : Int), .int .i64 (Hp : Int), .int .i64 b2, .int .i64 c2, .int .i64 p2], .slice AS K cS] W fun e w' => ∃ A1 c1, e = .returned (.slice A1 (frsL (N : Int) (Hp : Int) b2 c2 p2 S).length c1) ∧ (frsL (N : Int) (Hp : Int) b2 c2 p2 S).length ≤ c1 ∧ Aside0 (R2 w' W.heap.size (fun _ => True) (.slice A1 (frsL (N : Int) (Hp : Int) b2 c2 p2 S).length c1) (frsL (N : Int) (Hp : Int) b2 c2 p2 S)) ∧ Aside0 (Below W.heap.size W w')) := ⟨fun W AS cS hc h => whole_d AS K cS _ _ b2 c2 p2 S W hK hc h (by omega) hSo ⟨hp0, hp1⟩ ⟨by omega, by omega⟩ (by omega) (by omega)⟩
 obtain ⟨FW, hFW⟩ : ∃ F, frsL (N : Int) (Hp : Int) b2 c2 p2 S = F := ⟨_, rfl⟩
 rw [hFW] at HWH
 obtain ⟨fl, hfl⟩ : ∃ k, FW.length = k := ⟨_, rfl⟩
 rw [hfl] at HWH
 have HFW := Aside0.mk hFW
 have HFL := Aside0.mk hfl
 have HCU := Aside0.mk hC2
 have HLU := Aside0.mk hl2
 rw [hK] at HSD
 have HK := Aside0.mk hK
 have HSO := Aside0.mk hSo
 have HNW : Aside0 (∀ W : World, GlobA W → Calls Tryd.prog 30 #[.agg #[.int .i64 (N : Int), .int .i64 (Hp : Int), .int .i64 b2, .int .i64 c2, .int .i64 p2]] W fun e w' => ∃ g, e = .returned (.pointer (some ⟨g, 0, none⟩)) ∧ W.heap.size ≤ g ∧ w'.heap[g]? = some (.cells (strC (N : Int) (Hp : Int) b2 c2 p2 0 0 (.slice none 0 0)) 86 (0, 0)) ∧ Below W.heap.size W w') := ⟨fun W hg => new_yes _ _ b2 c2 p2 W hg HR2.out⟩
 clear hsr hsp hG hN hN1 hx0 hx1 hHp hp0 hp1 hl hC hK hSo hFW hfl hC2 hl2
 have ST0 : True := trivial
 go_enter Tryd.func9, Tryd.ntmps9
 go_upto_region 3 with (first
  | ((with_reducible refine gate_dst (N := 3) rfl ?_); refine box_event ?hg (N := 3) ?hd (cs := #[.int .i64 x, .int .i64 y, .int .i64 z, .bool a, .bool d]) (t := 41) ?hr ?_; (case hd => rfl); (case hg => first | rfl | exact wanted_on rfl rfl rfl (by first | assumption | rfl | (simp [*]; done))); (case hr => first | (go_simp; done) | (go_simp; rfl)); intro g3 hg3 w1 hbox hb; have B3 := Aside0.mk hbox; have HB1 := Aside0.mk hb; clear ST0 hbox hb hg3; have ST1 : True := trivial)
  | (go_at_call 22; clear ST1; (with_reducible refine (awake_go _ (HG0.out.below HB1.out)).mono ?_); rintro e_ w3 ⟨rfl, hb⟩; have HB3 := Aside0.mk (below_step HB1.out hb); have B3n := Aside0.mk (blk_below B3.out hb); clear hb HB1 B3; have B3 := B3n; clear B3n; have q0 := blk_cell B3.out 0; have q1 := blk_cell B3.out 1; have q2 := blk_cell B3.out 2; have q3 := blk_cell B3.out 3; have q4 := blk_cell B3.out 4; have ST3 : True := trivial)
  | (go_at_call 23; clear ST3; (with_reducible refine (HSP.out _).mono ?_); rintro e_ w4 ⟨rfl, hb⟩; have HB4 := Aside0.mk (below_step HB3.out hb); clear hb HB3 B3 q0 q1 q2 q3 q4; have ST4 : True := trivial)
  | ((with_reducible refine gate_dst (N := 8) rfl ?_); refine box_event ?hg (N := 8) ?hd (cs := #[.int .i64 0, .int .i64 0, .int .i64 0, .int .i64 0, .int .i64 0]) (t := 39) ?hr ?_; (case hd => rfl); (case hg => first | rfl | exact wanted_on rfl rfl rfl (by first | assumption | rfl | (simp [*]; done))); (case hr => first | (go_simp; done) | (go_simp; rfl)); intro g8 hg8 w5 hbox hb; have B8 := Aside0.mk hbox; have HB5 := Aside0.mk (below_step HB4.out hb); have hgl8 : w.heap.size ≤ g8 := (by rw [hg8]; exact HB4.out.size); clear ST4 hbox hb hg8 HB4; have q0 := blk_cell B8.out 0; have q1 := blk_cell B8.out 1; have q2 := blk_cell B8.out 2; have q3 := blk_cell B8.out 3; have q4 := blk_cell B8.out 4;have f0 := blk_frozen B8.out 0; have f1 := blk_frozen B8.out 1; have f2 := blk_frozen B8.out 2; have f3 := blk_frozen B8.out 3; have f4 := blk_frozen B8.out 4; have ST5 : True := trivial))
 obtain ⟨w6, hw6⟩ : ∃ W, fill5 w5 g8 (.int .i64 (N : Int)) (.int .i64 (Hp : Int)) (.int .i64 b2) (.int .i64 c2) (.int .i64 p2) = W := ⟨_, rfl⟩
 have B8n := Aside0.mk (hw6 ▸ fill5_at B8.out (.int .i64 (N : Int)) (.int .i64 (Hp : Int)) (.int .i64 b2) (.int .i64 c2) (.int .i64 p2))
 have HB6 := Aside0.mk (hw6 ▸ fill5_below HB5.out hgl8 (.int .i64 (N : Int)) (.int .i64 (Hp : Int)) (.int .i64 b2) (.int .i64 c2) (.int .i64 p2))
 unfold fill5 at hw6
 rw [hw6]
 clear hw6 B8 HB5 q0 q1 q2 q3 q4 f0 f1 f2 f3 f4
 go_upto_region 6 with (first
  | (go_at_call 28; clear ST5; (with_reducible refine (HSD.out _ (Kd.C_below HC0.out HB6.out)).mono ?_); rintro e_ w7 ⟨AS, cS, rfl, hcS, HRS, hb⟩; have HB7 := Aside0.mk (below_step HB6.out hb.out); have B87 := Aside0.mk (blk_below B8n.out hb.out); have HCS7 := Aside0.mk (R_C HRS.out); clear hb HB6 B8n; have q0 := blk_cell B87.out 0; have q1 := blk_cell B87.out 1; have q2 := blk_cell B87.out 2; have q3 := blk_cell B87.out 3; have q4 := blk_cell B87.out 4; have ST6 : True := trivial)
  | (go_at_call 29; clear ST6; (with_reducible refine (HWH.out _ AS cS HCS7.out hcS).mono ?_); rintro e_ wb ⟨AW, cW, rfl, hcW, HRW, hb⟩; have HBw := Aside0.mk (below_step HB7.out hb.out); have B8 := Aside0.mk (blk_below B87.out hb.out); have HCS := Aside0.mk (Kd.C_below HCS7.out hb.out); have HRSb := Aside0.mk (Kd.R_below HRS.out hb.out); clear hb HB7 B87 HCS7 HRS q0 q1 q2 q3 q4; have HGW := Aside0.mk (HG0.out.below HBw.out); have q0 := blk_cell B8.out 0; have q1 := blk_cell B8.out 1; have q2 := blk_cell B8.out 2; have q3 := blk_cell B8.out 3; have q4 := blk_cell B8.out 4; have ST7 : True := trivial)
  | (go_at_call 30; clear ST7; (with_reducible refine (HNW.out _ HGW.out).mono ?_); rintro e_ w1 ⟨gs, rfl, hg, hbk, B1⟩; have hgs0 : wb.heap.size ≤ gs := hg; have HB1 := Aside0.mk B1; have HS1 : Aside0 (StrAt w1 gs wb.heap.size (N : Int) (Hp : Int) b2 c2 p2 0 0 (.slice none 0 0) []) := ⟨StrAt.new hbk hg⟩; clear hbk B1 hg q0 q1 q2 q3 q4))
 have HS1n : Aside0 (StrAt w1 gs wb.heap.size (N : Int) (Hp : Int) b2 c2 p2 ((([] : List Int).length : Nat) : Int) (lastL 0 []) (.slice none 0 0) (rssL (N : Int) (Hp : Int) b2 c2 p2 [])) := ⟨st_new (by omega) HS1.out⟩
 have hw1 : 1 ≤ wb.heap.size := HGW.out.1
 have hKS := HK.out
 have hBS : ∀ ad, AS = some ad → 0 < K → ad.block < wb.heap.size := fun ad e h => by
  obtain ⟨gr, cr, hfe, _, h2, _⟩ := Kd.R_form HRSb.out (by omega)
  injection hfe with e1 _ _
  rw [e1] at e
  injection e with e
  rw [← e]; exact h2
 have HBS := Aside0.mk hBS
 have HCW : Aside0 ((Kd.slice 3 (Kd.int .i64)).C wb AW FW.length FW) := ⟨(Kd.R_reads' HRW.out).2.2⟩
 obtain ⟨mc, m1, m2, m3⟩ : ∃ k : Nat, k ≤ n2 ∧ k ≤ 20 ∧ (k = n2 ∨ k = 20) := ⟨min n2 20, by omega, by omega, by omega⟩
 clear hKS hBS HS1 HRSb HRW
 go_wp2
 go_loopw [12, 13, 14] (fun x1 x2 x3 wr => ∃ (td ad i : Nat) (v : Value), x1 = .int .i64 (td : Int) ∧ x2 = .int .i64 (ad : Int) ∧ x3 = .int .i64 (i : Int) ∧ ad ≤ K ∧ i ≤ mc + 1 ∧ (i ≤ mc ∨ ad = K) ∧ Aside0 (td = (frsL (N : Int) (Hp : Int) b2 c2 p2 (S.take ad)).length) ∧ Aside0 (StrAt wr gs wb.heap.size (N : Int) (Hp : Int) b2 c2 p2 (ad : Int) (lastL 0 (S.take ad)) v (rssL (N : Int) (Hp : Int) b2 c2 p2 (S.take ad))) ∧ Aside0 (Below wb.heap.size wb wr)) (fun _ _ x _ => 22 - (intOf x).toNat)
 case atStart => exact ⟨0, 0, 0, .slice none 0 0, rfl, rfl, rfl, by omega, by omega, .inl (by omega), ⟨by rw [List.take_zero, frs_nil (by omega)]; rfl⟩, HS1n, HB1⟩
 case round =>
  clear HS1n HB1
  obtain ⟨td, ad, i, v, rfl, rfl, rfl, h1, h2, h3, HTD, HS, HB⟩ := hrel
  by_cases hex : i < mc ∨ ad < K
  ·
   obtain ⟨cb, hcb⟩ : ∃ q, decide (i < mc) = q := ⟨_, rfl⟩
   have HCB := Aside0.mk hcb
   have HEX := Aside0.mk hex
   have h4 : i ≤ mc := by omega
   have h5 : i ≤ 20 := by omega
   have H0 := Aside0.mk (below_step HBw.out HB.out)
   clear hcb hex h3
   go_upto_region 9 with fail
   go_cut [43] from 30 to 108 (fun u W => u = .bool true ∧ W = wr)
   case first =>
    have hex := HEX.out
    by_cases y0 : ad < K
    ·
     have y1 : (ad : Int) < (K : Int) := by omega
     clear hex
     go_wp2_with fail
     go_meet
     case rel => exact ⟨rfl, rfl⟩
    ·
     have y1 : ¬ (ad : Int) < (K : Int) := by omega
     have y2 : (i : Int) < (n2 : Int) := by omega
     have y3 : (i : Int) < 20 := by omega
     clear hex
     go_wp2_with fail
     go_meet
     case rel => exact ⟨rfl, rfl⟩
   case rest =>
   obtain ⟨rfl, hw_⟩ := hcut
   replace hw_ := hw_.symm
   subst hw_
   obtain ⟨r, hr⟩ : ∃ r, ad + r = K := ⟨K - ad, by omega⟩
   have xr : IntKind.i64.wrap ((K : Int) - (ad : Int)) = (r : Int) := by rw [IntKind.wrap_i64]; omega
   go_upto_region 12 with fail
   go_cut [57] from 30 to 108 (fun u W => u = .bool cb ∧ W = wr)
   case first =>
    by_cases y0 : i < mc
    ·
     have e : cb = true := by rw [← HCB.out]; exact decide_eq_true y0
     subst e
     have y2 : (i : Int) < (n2 : Int) := by omega
     have y3 : (i : Int) < 20 := by omega
     go_wp2_with fail
     go_meet
     case rel => exact ⟨rfl, rfl⟩
    ·
     have e : cb = false := by rw [← HCB.out]; exact decide_eq_false y0
     subst e
     by_cases y1 : i < n2
     ·
      have y2 : (i : Int) < (n2 : Int) := by omega
      have y3 : ¬ (i : Int) < 20 := by omega
      go_wp2_with fail
      go_meet
      case rel => exact ⟨rfl, rfl⟩
     ·
      have y2 : ¬ (i : Int) < (n2 : Int) := by omega
      go_wp2_with fail
      go_meet
      case rel => exact ⟨rfl, rfl⟩
   case rest =>
   obtain ⟨rfl, hw_⟩ := hcut
   replace hw_ := hw_.symm
   subst hw_
   go_upto_if 57 with fail
   go_cut [15] from 30 to 108 (fun u W => ∃ m : Nat, u = .int .i64 (m : Int) ∧ ad + m ≤ K ∧ Aside0 (i < mc ∨ ad + m = K) ∧ W = wr)
   case first =>
    cases cb
    ·
     go_wp2_with fail
     go_meet
     case rel => exact ⟨r, rfl, by omega, ⟨.inr hr⟩, rfl⟩
    ·
     have y0 : i < mc := of_decide_eq_true HCB.out
     have y2 : (i : Int) < (n2 : Int) := by omega
     have y1 : (0 : Int) ≤ (i : Int) := by omega
     have hC1 := Kd.C_below HCU.out H0.out
     obtain ⟨a2, rfl, hcs⟩ := sp_ad hC1 (by omega)
     have k0 := hcs i (by omega)
     obtain ⟨zc, hz⟩ : ∃ q, cuts.getD i 0 = q := ⟨_, rfl⟩
     rw [hz] at k0
     have hr1 : ∃ r, Int.tmod zc 40 = r ∧ -40 < r ∧ r < 40 := ⟨_, rfl, by have h1 := Int.natAbs_tmod zc 40; have h2 := Nat.mod_lt zc.natAbs (show 0 < (40 : Int).natAbs by decide); have h3 : (40 : Int).natAbs = 40 := rfl; rw [h3] at h1 h2; omega, by have h1 := Int.natAbs_tmod zc 40; have h2 := Nat.mod_lt zc.natAbs (show 0 < (40 : Int).natAbs by decide); have h3 : (40 : Int).natAbs = 40 := rfl; rw [h3] at h1 h2; omega⟩
     obtain ⟨r1, n1, n2_, n3⟩ := hr1
     have hr3 : ∃ r, Int.tmod (r1 + 40) 40 = r ∧ 0 ≤ r ∧ r < 40 := ⟨_, rfl, Int.tmod_nonneg _ (by omega), Int.tmod_lt_of_pos _ (by decide)⟩
     obtain ⟨r3, n4, n5, n6⟩ := hr3
     have x1 : IntKind.i64.wrap r1 = r1 := by rw [IntKind.wrap_i64]; omega
     have x2 : IntKind.i64.wrap (r1 + 40) = r1 + 40 := by rw [IntKind.wrap_i64]; omega
     have x3 : IntKind.i64.wrap r3 = r3 := by rw [IntKind.wrap_i64]; omega
     clear hcs hC1 hz
     by_cases hmr : r3 < (r : Int)
     ·
      go_wp2_with fail
      go_meet
      case rel => exact ⟨r3.toNat, by rw [Int.toNat_of_nonneg n5], by omega, ⟨.inl y0⟩, rfl⟩
     ·
      go_wp2_with fail
      go_meet
      case rel => exact ⟨r, rfl, by omega, ⟨.inl y0⟩, rfl⟩
   case rest =>
   obtain ⟨m, rfl, hm, HM, hw_⟩ := hcut
   replace hw_ := hw_.symm
   subst hw_
   obtain ⟨e, he⟩ : ∃ e, ad + m = e := ⟨_, rfl⟩
   have hKS := HK.out
   obtain ⟨T, tl, fn, t1, t2, t3, t4, t5, t6, t7, t8, t9⟩ := stream_step N Hp b2 c2 p2 S ad e td (by omega) hH1 hHN (by omega) (by omega) HTD.out
   obtain ⟨P, hP⟩ : ∃ L, S.take ad = L := ⟨_, rfl⟩
   obtain ⟨X, hX⟩ : ∃ L, (S.take e).drop ad = L := ⟨_, rfl⟩
   have hPX : P ++ X = S.take e := by rw [← hP, ← hX]; exact takes_app S (by omega)
   have hPl : P.length = ad := by rw [← hP, List.length_take]; omega
   have hel : (S.take e).length = e := by rw [List.length_take]; omega
   have hXl : X.length = e - ad := by rw [← hX, List.length_drop, hel]
   have hSe : (S.take e).any badPU = false := by
    have h := HSO.out
    rw [← List.take_append_drop e S, List.any_append, Bool.or_eq_false_iff] at h
    exact h.1
   have hPo : P.any badPU = false := by
    have h := hSe
    rw [← hPX, List.any_append, Bool.or_eq_false_iff] at h
    exact h.1
   have hXo : X.any badPU = false := by
    have h := hSe
    rw [← hPX, List.any_append, Bool.or_eq_false_iff] at h
    exact h.2
   obtain ⟨AQ, hAQ⟩ : ∃ A, (if cS = ad then AS else AS.map (·.add ad)) = A := ⟨_, rfl⟩
   have hCX : (Kd.int .i64).C wr AQ (e - ad) X := by
    have h1 := Kd.C_below HCS.out HB.out
    rw [← hKS] at h1
    have := Kd.C_mid h1 (lo := ad) (hi := e) (c := cS) (by omega) (by omega) (by omega)
    rw [hX, hXl, show ad * (Kd.int IntKind.i64).sz = ad by show ad * 1 = ad; omega, hAQ] at this
    exact this
   have hBQ : ∀ a, AQ = some a → 0 < K → a.block < wb.heap.size := fun a e h => by
    rw [← hAQ] at e
    split at e
    · exact HBS.out a e h
    ·
     obtain ⟨ad0, h0, h1⟩ := Option.map_eq_some_iff.1 e
     rw [← h1, add_block]
     exact HBS.out ad0 h0 h
   have HPG : Aside0 (∀ c : Nat, Calls Tryd.prog 31 #[.pointer (some ⟨gs, 0, none⟩), .slice AQ (e - ad) c] wr fun e_ w' => ∃ A1 c1 v', e_ = .returned (.tuple #[.slice A1 tl c1, .int .i64 0]) ∧ tl ≤ c1 ∧ Aside0 (StrAt w' gs wb.heap.size (N : Int) (Hp : Int) b2 c2 p2 (e : Int) (lastL 0 (S.take e)) v' (rssL (N : Int) (Hp : Int) b2 c2 p2 (S.take e))) ∧ Aside0 ((Kd.slice 3 (Kd.int .i64)).C w' A1 tl T) ∧ Aside0 (Below wb.heap.size wb w')) := ⟨fun c => by
    have hs2 : StrAt wr gs wb.heap.size (N : Int) (Hp : Int) b2 c2 p2 (P.length : Int) (lastL 0 P) v (rssL (N : Int) (Hp : Int) b2 c2 p2 P) := by rw [hPl, ← hP]; exact HS.out
    have hA : ∀ a, AQ = some a → 0 < e - ad → a.block ≠ gs ∧ some a.block ≠ v.ownBlock := fun a e_ h => by
     have h3 := hBQ a e_ (by omega)
     exact ⟨by omega, fun e2 => by have := (HS.out.ne _ e2.symm).2.1; omega⟩
    have H := push_st AQ c (e - ad) gs wb.heap.size N Hp b2 c2 p2 P X T v wr (HGW.out.below HB.out) hw1 HB.out.size hs2 hXl hCX hA hXo hPo HPP.out (by omega) hH1 hHN (by omega) (by omega) (by rw [hPl]; omega) (by rw [← hP, ← hX]; exact t3)
    rw [hPX, hel, t1] at H
    refine H.mono ?_
    rintro e_ w2 ⟨A1, c1, v2, rfl, k1, hS2, hO2, hK2, hv2⟩
    refine ⟨A1, c1, v2, rfl, k1, hS2, ⟨?_⟩, ⟨HB.out.trans (hK2.out.toBelow HB.out.size hgs0 (fun k e => (HS.out.ne k e).2.1))⟩⟩
    have h3 := (Kd.R_reads' hO2.out).2.2
    rwa [t1] at h3⟩
   have hFl := HFL.out
   obtain ⟨AR, hAR⟩ : ∃ A, (if cW = td then AW else AW.map (·.add td)) = A := ⟨_, rfl⟩
   have hCT : (Kd.slice 3 (Kd.int .i64)).C wb AR tl T := by
    have h1 := HCW.out
    have := Kd.C_mid h1 (lo := td) (hi := fn) (c := cW) (by omega) (by rw [← HFW.out]; exact t8) (by omega)
    rw [← HFW.out, t5, t1, show td * (Kd.slice 3 (Kd.int IntKind.i64)).sz = td by show td * 1 = td; omega, hAR] at this
    exact this
   have hfw : fn ≤ fl := by rw [← hFl, ← HFW.out]; exact t8
   have HRW : Aside0 (∀ (W : World) (A1 : Option Addr) (d1 d2 : Nat), (Kd.slice 3 (Kd.int .i64)).C W A1 tl T → tl ≤ d1 → tl ≤ d2 → Below wb.heap.size wb W → Calls Tryd.prog 34 #[.slice A1 tl d1, .slice AR (fn - td) d2] W fun e w' => e = .returned (.bool true) ∧ Aside0 (Below W.heap.size W w')) := ⟨fun W A1 d1 d2 k1 k2 k3 hb => by
    have hCT2 := Kd.C_below hCT hb
    rw [show fn - td = tl by omega]
    subst t1
    exact (earshotlaw13_rows.calls 4000 A1 d1 T AR d2 T true W k1 k2 hCT2 k3 (rows_f T (by omega) t9)).mono fun e w' ⟨a, b⟩ => ⟨a, ⟨b.below⟩⟩⟩
   have HFR : Aside0 (∀ W : World, Calls Tryd.prog 32 #[.agg #[.int .i64 (N : Int), .int .i64 (Hp : Int), .int .i64 b2, .int .i64 c2, .int .i64 p2], .int .i64 (e : Int)] W fun e_ w' => e_ = .returned (.int .i64 (fn : Int)) ∧ Aside0 (Below W.heap.size W w')) := ⟨fun W => (earshotref13_Frames.calls _ _ _ _ _ _ _ W ((rframes_f _ _ b2 c2 p2 (e : Int) ⟨by omega, by omega⟩ (by omega) (by omega) (by omega)).trans (congrArg some t7))).mono fun e_ w' ⟨a, b⟩ => ⟨a, ⟨b⟩⟩⟩
   have HTD2 := Aside0.mk t4
   have xe : IntKind.i64.wrap ((ad : Int) + (m : Int)) = (e : Int) := by rw [IntKind.wrap_i64]; omega
   have xf : IntKind.i64.wrap ((td : Int) + (tl : Int)) = (fn : Int) := by rw [IntKind.wrap_i64]; omega
   have u1 : (0 : Int) ≤ (ad : Int) := by omega
   have u2 : (ad : Int) ≤ (e : Int) := by omega
   have u3 : (e : Int) ≤ (cS : Int) := by omega
   have u4 : (0 : Int) ≤ (td : Int) := by omega
   have u5 : (td : Int) ≤ (fn : Int) := by omega
   have u6 : (fn : Int) ≤ (cW : Int) := by omega
   have hem : e ≤ K := by omega
   have HE := Aside0.mk he
   have HT2 := Aside0.mk t2
   have HRR := Aside0.mk hr
   clear hr xr hKS t1 t2 t3 t4 t5 t6 t7 t8 t9 hP hX hPX hPl hel hXl hSe hPo hXo hCX hBQ hFl hCT he HTD HS HEX HCB
   go_upto_region 14 with fail
   go_cut [16, 17] from 30 to 108 (fun y1 y2 W => ∃ A1 c1 v', y1 = .slice A1 tl c1 ∧ y2 = .int .i64 0 ∧ tl ≤ c1 ∧ Aside0 (StrAt W gs wb.heap.size (N : Int) (Hp : Int) b2 c2 p2 (e : Int) (lastL 0 (S.take e)) v' (rssL (N : Int) (Hp : Int) b2 c2 p2 (S.take e))) ∧ Aside0 ((Kd.slice 3 (Kd.int .i64)).C W A1 tl T) ∧ Aside0 (Below wb.heap.size wb W))
   case first =>
    by_cases hcs : cS = ad
    ·
     have hAQ2 : AQ = AS := by rw [← hAQ, if_pos hcs]
     subst hAQ2
     clear hAQ
     subst hcs
     go_wp2_with (go_at_call 31; (refine (HPG.out _).mono ?_); rintro e_ W1 ⟨B1, d1, va, rfl, hd1, HSa, HRa, HBa⟩)
     go_meet
     case rel => exact ⟨B1, d1, va, rfl, rfl, hd1, HSa, HRa, HBa⟩
    ·
     have hAQ2 : AQ = Option.map (fun x => x.add ad) AS := by rw [← hAQ, if_neg hcs]
     clear hAQ
     subst hAQ2
     go_wp2_with (go_at_call 31; (refine (HPG.out _).mono ?_); rintro e_ W1 ⟨B1, d1, va, rfl, hd1, HSa, HRa, HBa⟩)
     go_meet
     case rel => exact ⟨B1, d1, va, rfl, rfl, hd1, HSa, HRa, HBa⟩
   case rest =>
   obtain ⟨B1, d1, va, rfl, rfl, hd1, HSa, HRa, HBa⟩ := hcut
   clear HPG hAQ HB H0
   have r0 := blk_cell (blk_below B8.out HBa.out) 0
   have r1 := blk_cell (blk_below B8.out HBa.out) 1
   have r2 := blk_cell (blk_below B8.out HBa.out) 2
   have r3 := blk_cell (blk_below B8.out HBa.out) 3
   have r4 := blk_cell (blk_below B8.out HBa.out) 4
   have ST0 : True := trivial
   go_upto_region 19 with (first
    | (go_at_call 32; clear ST0; (with_reducible refine (HFR.out _).mono ?_); rintro e_ W2 ⟨rfl, hs⟩; have HSb := Aside0.mk (HSa.out.below hs.out); have HRb := Aside0.mk (Kd.C_below HRa.out hs.out); have HBb := Aside0.mk (below_step HBa.out hs.out); clear hs HSa HRa HBa r0 r1 r2 r3 r4; have ST1 : True := trivial)
    | (go_at_call 33; clear ST1; refine (count_go gs _ _ _ _ _ _ _ _ _ HSb.out.1).mono ?_; rintro e_ W3 ⟨rfl, hs⟩; have HSc := Aside0.mk (HSb.out.below hs); have HRc := Aside0.mk (Kd.C_below HRb.out hs); have HBc := Aside0.mk (below_step HBb.out hs); clear hs HSb HRb HBb))
   go_cut [19] from 30 to 108 (fun u W => u = .bool true ∧ Aside0 (Below W3.heap.size W3 W))
   case first =>
    by_cases hcw : cW = td
    ·
     have hAR2 : AR = AW := by rw [← hAR, if_pos hcw]
     subst hAR2
     clear hAR
     subst hcw
     go_wp2_with (go_at_call 34; (refine (HRW.out W3 B1 d1 _ HRc.out hd1 ?hd HBc.out).mono ?_); (case hd => have := HT2.out; omega); rintro e_ W4 ⟨rfl, hs⟩)
     go_meet
     case rel => exact ⟨rfl, hs⟩
    ·
     have hAR2 : AR = Option.map (fun x => x.add td) AW := by rw [← hAR, if_neg hcw]
     clear hAR
     subst hAR2
     go_wp2_with (go_at_call 34; (refine (HRW.out W3 B1 d1 _ HRc.out hd1 ?hd HBc.out).mono ?_); (case hd => have := HT2.out; omega); rintro e_ W4 ⟨rfl, hs⟩)
     go_meet
     case rel => exact ⟨rfl, hs⟩
   case rest =>
   obtain ⟨rfl, hs⟩ := hcut
   have HSd := Aside0.mk (HSc.out.below hs.out)
   have HBd := Aside0.mk (below_step HBc.out hs.out)
   clear HRW HFR hAR HRc HSc HBc hs
   go_wp2
   go_roundw
   case rel =>
    have hM := HM.out
    have hE := HE.out
    exact ⟨fn, e, i + 1, va, rfl, rfl, by go_num, hem, by omega, by omega, HTD2, HSd, HBd⟩
   case measure => simp [intOf]; omega
  ·
   have e1 : ad = K := by omega
   subst e1
   have HBe := Aside0.mk (below_step HBw.out HB.out)
   have y1 : ¬ (ad : Int) < (ad : Int) := by omega
   by_cases y0 : i < n2
   ·
    have y2 : (i : Int) < (n2 : Int) := by omega
    have y3 : ¬ (i : Int) < 20 := by omega
    clear hex h3
    go_wp2
    go_ret
    exact ⟨rfl, HBe.out⟩
   ·
    have y2 : ¬ (i : Int) < (n2 : Int) := by omega
    clear hex h3
    go_wp2
    go_ret
    exact ⟨rfl, HBe.out⟩
theorem earshotlaw13_FrontStream.calls (a0_0 a0_1 a0_2 : Int) (a0_3 a0_4 : Bool) (A1 : Option Addr) (c1 : Nat) (l1 : List Int) (A2 : Option Addr) (c2 : Nat) (l2 : List Int) (r : Bool) (w : World) (hG : GlobA w) (hr1 : Kd.C (Kd.int .i64) w A1 l1.length l1) (hc1 : l1.length ≤ c1) (hr2 : Kd.C (Kd.int .i64) w A2 l2.length l2) (hc2 : l2.length ≤ c2) (h : earshotlaw13_FrontStream.f a0_0 a0_1 a0_2 a0_3 a0_4 l1 l2 = some r) :
  Calls Tryd.prog 9 #[.agg #[.int .i64 a0_0, .int .i64 a0_1, .int .i64 a0_2, .bool a0_3, .bool a0_4], .slice A1 l1.length c1, .slice A2 l2.length c2] w fun e w' => e = .returned (.bool r) ∧ Below w.heap.size w w' := by
 unfold earshotlaw13_FrontStream.f at h
 split at h
 case isFalse => cases h
 rename_i hz
 obtain rfl := Option.some.inj h
 simp only [Bool.and_eq_true, decide_eq_true_eq] at hz
 exact stream_go A1 A2 l1.length c1 l2.length c2 _ _ _ _ _ l1 l2 w hG rfl hr1 hc1 hz.1 rfl hr2 hz.2
def earshotlaw13_FrontStream.Pure : Prop := ∀ (a0_0 : Int) (a0_1 : Int) (a0_2 : Int) (a0_3 : Bool) (a0_4 : Bool) (l1 : List Int) (l2 : List Int), (Lit.int .i64 a0_0).wf = true → (Lit.int .i64 a0_1).wf = true → (Lit.int .i64 a0_2).wf = true → l1.length ≤ maxLen → l1.length * 8 ≤ 140737488351232 → (∀ x ∈ l1, (Lit.int .i64 x).wf = true) → l2.length ≤ maxLen → l2.length * 8 ≤ 140737488351232 → (∀ x ∈ l2, (Lit.int .i64 x).wf = true) → earshotlaw13_FrontStream.f a0_0 a0_1 a0_2 a0_3 a0_4 l1 l2 = some true
theorem earshotlaw13_FrontStream.walk (P : earshotlaw13_FrontStream.Pure) (a0_0 : Int) (a0_1 : Int) (a0_2 : Int) (a0_3 : Bool) (a0_4 : Bool) (a1 : Option Addr) (len1 cap1 : Nat) (z1 : List Int) (a2 : Option Addr) (len2 cap2 : Nat) (z2 : List Int) (w : World) (w0_0 : (Lit.int .i64 a0_0).wf = true) (w0_1 : (Lit.int .i64 a0_1).wf = true) (w0_2 : (Lit.int .i64 a0_2).wf = true) (w1 : (a1 = none ∧ len1 = 0 ∧ cap1 = 0 ∧ z1 = []) ∨ ∃ x, a1 = some x ∧ len1 ≤ cap1 ∧ cap1 ≤ maxLen ∧ z1.length = cap1 ∧ (∀ i, i < z1.length → w.cell? (x.add i) = some (.int .i64 (z1.getD i 0))) ∧ ∀ n ∈ z1, (Lit.int .i64 n).wf = true) (y1 : len1 * 8 ≤ 140737488351232) (w2 : (a2 = none ∧ len2 = 0 ∧ cap2 = 0 ∧ z2 = []) ∨ ∃ x, a2 = some x ∧ len2 ≤ cap2 ∧ cap2 ≤ maxLen ∧ z2.length = cap2 ∧ (∀ i, i < z2.length → w.cell? (x.add i) = some (.int .i64 (z2.getD i 0))) ∧ ∀ n ∈ z2, (Lit.int .i64 n).wf = true) (y2 : len2 * 8 ≤ 140737488351232) (hG : GlobA w) :
  Calls Tryd.prog 9 #[.agg #[.int .i64 a0_0, .int .i64 a0_1, .int .i64 a0_2, .bool a0_3, .bool a0_4], .slice a1 len1 cap1, .slice a2 len2 cap2] w fun e w' => e = .returned (.bool true) ∧ Below w.heap.size w w' := by
 obtain ⟨l1, rfl, hr1, hm1, hw1, hc1⟩ := ReadsInt.ofRowC w1
 obtain ⟨l2, rfl, hr2, hm2, hw2, hc2⟩ := ReadsInt.ofRowC w2
 have h := P a0_0 a0_1 a0_2 a0_3 a0_4 l1 l2 w0_0 w0_1 w0_2 hm1 y1 hw1 hm2 y2 hw2
 refine (earshotlaw13_FrontStream.calls a0_0 a0_1 a0_2 a0_3 a0_4 _ _ l1 _ _ l2 true w hG (Kd.C_of_reads (d := (0 : Int)) (h1 := fun _ => rfl) hr1) hc1 (Kd.C_of_reads (d := (0 : Int)) (h1 := fun _ => rfl) hr2) hc2 h).mono ?_
 rintro e w' ⟨rfl, hd⟩
 exact ⟨rfl, hd⟩
end Go.Proofs.YtmhacdnnnebpdaaDoor.PFrontStream
