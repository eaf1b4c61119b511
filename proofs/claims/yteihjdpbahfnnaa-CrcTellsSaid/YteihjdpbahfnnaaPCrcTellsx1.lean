-- Written by a program of this work (wip/tools) for this claim; Lean checks it.
import Derived.Test.YteihjdpbahfnnaaPCrcTellsx0
namespace Go.Proofs.Yteihjdpbahfnnaa.PCrcTells
open Go.RowKit Go.Proofs.YteihjdpbahfnnaaW.PrintWords Go.Proofs.YteihjdpbahfnnaaW.PrintLast Go.Proofs.YteihjdpbahfnnaaW.PrintMore
attribute [local go_sem] max2_int min2_int max_two min_two max_three min_three max_four min_four   -- for this text's walks alone
set_option linter.unusedVariables false
set_option linter.unusedSimpArgs false

-- NOT PRINTED: function 30 (crc_Sum_1)

/-! ### crc_Sum: function 15 -/
def crcStep (r : Int) : Int := Go.bits .xor .u32 (r / 2) ((3988292384 * (Go.bits .and .u32 r 1)) % 4294967296)
def crcReps : Nat → Int → Int
  | 0, r => r
  | n + 1, r => crcReps n (crcStep r)
def crcByte (r b : Int) : Int := crcReps 8 (Go.bits .xor .u32 r (b % 4294967296))
def crcFrom : Nat → ByteArray → Int → Int → Int
  | 0, _, _, r => r
  | n + 1, s, i, r => crcFrom n s (i + 1) (crcByte r (bt s i))
def crcAll : List ByteArray → Int → Int
  | [], r => r
  | s :: l, r => crcAll l (crcFrom s.size s 0 r)
theorem grown_set (W : World) (b : Nat) (v : Value) : W.grownBy (W.setCell ⟨b, 0, none⟩ v) (some b) :=
  ⟨rfl, rfl, rfl, by simp [World.setCell], fun k _ hk => Below.heap_setCell _ _ _ k (fun e => hk (by rw [e]))⟩
theorem grown_trans {a w w' : World} {row : Option Nat} (h : a.grownBy w row) (k : w.grownBy w' row) : a.grownBy w' row := World.grownBy.trans h k
theorem crc_next (g : Nat) (r b : Int) (w : World) (hg : w.heap[g]? = some (.cells #[.int .u32 r] 25 (0, 0))) :
    Calls Try.prog 30 #[.int .u8 b, .pointer (some ⟨g, 0, none⟩)] w fun e w' => e = .returned (.tuple #[]) ∧ Aside0 (w'.heap[g]? = some (.cells #[.int .u32 (crcByte r b)] 25 (0, 0))) ∧ Aside0 (w.grownBy w' (some g)) := by
  have hc := cell_of_one hg
  have hf := free_of_one hg
  have HG := Aside0.mk hg
  clear hg
  go_enter Try.func30, Try.ntmps30
  go_wp2
  clear hc hf
  go_loopw [8] (fun v wr => ∃ (n : Nat) (x : Int), n ≤ 8 ∧ v = .int .i64 (n : Int) ∧ Aside0 (wr.heap[g]? = some (.cells #[.int .u32 x] 25 (0, 0))) ∧ Aside0 (w.grownBy wr (some g)) ∧ Aside0 (crcReps (8 - n) x = crcByte r b)) (fun v _ => 8 - (intOf v).toNat)
  case atStart => exact ⟨0, _, by omega, rfl, ⟨one_setCell HG.out⟩, ⟨grown_set _ _ _⟩, ⟨rfl⟩⟩
  case round =>
    obtain ⟨n, x, hn, rfl, HX, HW, HE⟩ := hrel
    have hc := cell_of_one HX.out
    have hf := free_of_one HX.out
    by_cases hlt : n < 8
    · go_wp2
      go_roundw
      case rel => exact ⟨n + 1, _, by omega, by go_num, ⟨one_setCell HX.out⟩, ⟨grown_trans HW.out (grown_set _ _ _)⟩, ⟨by rw [← HE.out, show 8 - n = (8 - (n + 1)) + 1 by omega]; rfl⟩⟩
      case measure => simp [intOf]; omega
    · obtain rfl : n = 8 := by omega
      go_wp2
      go_end0
      exact ⟨rfl, ⟨by have := HE.out; simp only [crcReps, Nat.sub_self] at this; rw [← this]; exact HX.out⟩, HW⟩
def crcOk (l0 : List ByteArray) : Bool := decide (l0.length ≤ 4611686018427387904) && l0.all fun s => decide (s.size ≤ 4611686018427387904)
def crc_Sum.f (l0 : List ByteArray) : Option (Int) := if crcOk l0 = true then some (Go.bits .xor .u32 4294967295 (crcAll l0 4294967295)) else none
theorem crc_drop (l : List ByteArray) (i : Nat) (h : i < l.length) (r : Int) : crcAll (l.drop i) r = crcAll (l.drop (i + 1)) (crcFrom (l.getD i ByteArray.empty).size (l.getD i ByteArray.empty) 0 r) := by
  rw [List.drop_eq_getElem_cons h, crcAll, List.getD_eq_getElem?_getD, List.getElem?_eq_getElem h]
  rfl
set_option maxHeartbeats 8000000 in
theorem crc_Sum.calls (A0 : Option Addr) (c0 : Nat) (l0 : List ByteArray) (r : Int) (w : World) (hr0 : Kd.C Kd.string w A0 l0.length l0) (hc0 : l0.length ≤ c0) (h : crc_Sum.f l0 = some r) :
    Calls Try.prog 15 #[.slice A0 l0.length c0] w fun e w' => e = .returned (.int .u32 r) ∧ Below w.heap.size w w' := by
  have hok : crcOk l0 = true := by
    unfold crc_Sum.f at h
    split at h
    · assumption
    · cases h
  have HR : Aside0 (Go.bits .xor .u32 4294967295 (crcAll l0 4294967295) = r) := by
    unfold crc_Sum.f at h
    rw [if_pos hok] at h
    exact ⟨Option.some.inj h⟩
  clear h
  simp only [crcOk, Bool.and_eq_true, decide_eq_true_eq, List.all_eq_true] at hok
  obtain ⟨hl, hs⟩ := hok
  have HS := Aside0.mk hs
  have HC := Aside0.mk hr0
  have HC0 := Aside0.mk hc0
  clear hs hr0 hc0
  have hmf : ∀ (fn : Fn) (first cap : Array Value) (w : World), (Instr.makeFunc fn first cap).run Try.prog w = .ok (.func fn first cap) w := fun _ _ _ _ => rfl
  go_enter Try.func15, Try.ntmps15
  go_wp2
  go_loopw [11] (fun v wr => ∃ (n : Nat) (x : Int), n ≤ l0.length ∧ v = .int .i64 (n : Int) ∧ Aside0 (wr.heap[w.heap.size]? = some (.cells #[.int .u32 x] 25 (0, 0))) ∧ Aside0 (Below w.heap.size w wr) ∧ Aside0 (crcAll (l0.drop n) x = crcAll l0 4294967295)) (fun v _ => l0.length - (intOf v).toNat)
  case atStart => exact ⟨0, 4294967295, by omega, rfl, ⟨by simpa using heap_alloc_new w _⟩, ⟨below_alloc (Below.refl _ _) _⟩, ⟨rfl⟩⟩
  case round =>
    obtain ⟨n, x, hn, rfl, HX, HW, HE⟩ := hrel
    have hc := cell_of_one HX.out
    have hf := free_of_one HX.out
    by_cases hlt : n < l0.length
    · obtain ⟨ad, ha, hcell⟩ := Kd.at_string (Kd.C_below HC.out HW.out) (n : Int) (by omega) (by omega)
      subst ha
      rw [Int.toNat_natCast] at hcell
      obtain ⟨s, hsv⟩ : ∃ s, s = rdOf ByteArray.empty l0 (n : Int) := ⟨_, rfl⟩
      rw [← hsv] at hcell
      have HE2 : Aside0 (crcAll (l0.drop (n + 1)) (crcFrom s.size s 0 x) = crcAll l0 4294967295) := ⟨by rw [← HE.out, crc_drop l0 n hlt, hsv]; rfl⟩
      have hsz : s.size ≤ 4611686018427387904 := by
        refine HS.out s ?_
        rw [hsv]
        simp only [rdOf, Int.toNat_natCast, List.getD_eq_getElem?_getD, List.getElem?_eq_getElem hlt]
        exact List.getElem_mem _
      clear hsv
      go_wp2
      go_loopw [17] (fun v wr2 => ∃ (m : Nat) (y : Int), m ≤ s.size ∧ v = .int .i64 (m : Int) ∧ Aside0 (wr2.heap[w.heap.size]? = some (.cells #[.int .u32 y] 25 (0, 0))) ∧ Aside0 (Below w.heap.size w wr2) ∧ Aside0 (crcFrom (s.size - m) s (m : Int) y = crcFrom s.size s 0 x)) (fun v _ => s.size - (intOf v).toNat)
      case atStart => exact ⟨0, x, by omega, rfl, HX, HW, ⟨rfl⟩⟩
      case round =>
        clear hc hf hcell
        obtain ⟨m, y, hm, rfl, HY, HV, HF⟩ := hrel
        by_cases hlm : m < s.size
        · have hx := bt_at s (m : Int)
          go_wp2_with (go_at_call 30; refine (crc_next _ y _ _ HY.out).mono ?_; rintro e w' ⟨rfl, HN, HG⟩)
          refine ⟨⟨m + 1, _, by omega, by go_num, HN, ⟨Below.grown HV.out HG.out HV.out.size (fun k hk => by injection hk with hk; omega)⟩, ⟨?_⟩⟩, by simp [intOf]; omega⟩
          rw [← HF.out, show s.size - m = (s.size - (m + 1)) + 1 by omega, crcFrom, ← hx (by simpa using hlm)]
          rfl
        · obtain rfl : m = s.size := by omega
          have HF' : y = crcFrom s.size s 0 x := by have := HF.out; rwa [Nat.sub_self, crcFrom] at this
          subst HF'
          go_wp2
          go_roundw
          case rel => exact ⟨n + 1, _, by omega, by go_num, HY, HV, HE2⟩
          case measure => simp [intOf]; omega
    · obtain rfl : n = l0.length := by omega
      go_wp2
      go_ret
      refine ⟨?_, HW.out⟩
      show Ending.returned (.int .u32 (Go.bits .xor .u32 IntKind.u32.max x)) = .returned (.int .u32 r)
      rw [← HR.out, ← HE.out, List.drop_length, crcAll]
      rfl

/-! ### earshotlaw05_awake: function 13 -/
def earshotlaw05_awake.f  : Option (Bool) := (crc_Sum.f (([(⟨#[49, 50, 51, 52, 53]⟩ : ByteArray), (⟨#[54, 55, 56, 57]⟩ : ByteArray)] : List ByteArray))).bind fun t104 => (some (t104 == 3421780262))
set_option maxHeartbeats 8000000 in
set_option maxRecDepth 100000 in
theorem earshotlaw05_awake.calls  (r : Bool) (w : World) (h : earshotlaw05_awake.f  = some r) :
    Calls Try.prog 13 #[] w fun e w' => e = .returned (.bool r) ∧ Below w.heap.size w w' := by
  have HB := Aside0.mk (Below.refl w.heap.size w)
  have H : ((crc_Sum.f (([(⟨#[49, 50, 51, 52, 53]⟩ : ByteArray), (⟨#[54, 55, 56, 57]⟩ : ByteArray)] : List ByteArray))).bind fun t104 => (some (t104 == 3421780262))) = some r := h
  clear h
  obtain ⟨y101, hy101⟩ : ∃ y_ : List ByteArray, y_ = (([(⟨#[49, 50, 51, 52, 53]⟩ : ByteArray), (⟨#[54, 55, 56, 57]⟩ : ByteArray)] : List ByteArray)) := ⟨_, rfl⟩
  replace H : ((crc_Sum.f y101).bind fun t104 => (some (t104 == 3421780262))) = some r := by first | (rw [hy101]; with_reducible exact H) | (have H2_ := (Option.bind_some _ _).symm.trans H; rw [hy101]; with_reducible exact H2_) | (have H2_ := (Option.bind_some _ _).symm.trans H; with_reducible exact H2_) | with_reducible exact H | (rw [hy101]; exact H) | exact H
  have Ny101 := Aside0.mk hy101
  clear hy101
  replace H := Option.bind_eq_some_iff.mp H
  obtain ⟨t104, A10, H⟩ := H
  replace H : (some (t104 == 3421780262)) = some r := H
  have A1 := Aside0.mk A10
  clear A10
  obtain rfl := Option.some.inj H
  go_enter Try.func13, Try.ntmps13
  go_wp2_with (first | ((with_reducible refine gate_dst (N := 1) rfl ?_); refine Kd.R_lit Kd.string _ 9 ?hg (N := 1) ?hd (xs := ([(⟨#[49, 50, 51, 52, 53]⟩ : ByteArray), (⟨#[54, 55, 56, 57]⟩ : ByteArray)] : List ByteArray)) (inner := [.string (⟨#[49, 50, 51, 52, 53]⟩ : ByteArray), .string (⟨#[54, 55, 56, 57]⟩ : ByteArray)]) (ok := fun _ => True) (okp := fun _ => True) ?hr ?hp (fun _ hk => hk) trivial (Below.refl _ _) (Nat.le_refl _) (by simp) ?_; (case hd => rfl); (case hg => first | rfl | exact wanted_on rfl rfl rfl (by first | assumption | rfl | (simp [*]; done))); (case hr => first | (go_simp; done) | (go_simp; rfl)); (case hp => exact (Reps.one (show Kd.M Kd.string _ _ _ (⟨#[49, 50, 51, 52, 53]⟩ : ByteArray) [.string (⟨#[49, 50, 51, 52, 53]⟩ : ByteArray)] from rfl) (Reps.one (show Kd.M Kd.string _ _ _ (⟨#[54, 55, 56, 57]⟩ : ByteArray) [.string (⟨#[54, 55, 56, 57]⟩ : ByteArray)] from rfl) (Reps.none _ _)))); intro v102 w2 ho3 hb hg_ hnew_; clear hg_ hnew_; (first | rw [← Ny101.out] at ho3 | (simp only [Int.reduceToNat] at ho3; rw [← Ny101.out] at ho3)); have n0_ := Aside0.mk (Kd.R_lower ho3 (below_size (by repeat (first | (with_reducible first | exact HB.out | apply below_alloc | apply pw_below_drewN | apply below_drew1) | exact HB.out)))); have n1_ := Aside0.mk (below_step (by repeat (first | (with_reducible first | exact HB.out | apply below_alloc | apply pw_below_drewN | apply below_drew1) | exact HB.out)) hb); clear HB; have HO103 := n0_; have HB := n1_; clear n0_ n1_; clear hb ho3; obtain ⟨Ao4, co4, eo4⟩ := Kd.R_slice HO103.out; subst eo4) | ((with_reducible refine gate_callee (f := 15) rfl ?_); refine goesL_ (some 2) rfl rfl Try.func15 (by kernel_rfl) rfl #[.slice Ao4 y101.length co4] rfl (by (try simp only [List.map_toArray, List.map_cons, List.map_nil]); first | done | rfl | (simp only [List.length_drop, List.length_take]; rfl)) ?_; (with_reducible refine (crc_Sum.calls _ _ y101 t104 _ ?side1 ?side2 A1.out).mono ?_); (case side1 => repeat (first | exact (Kd.R_reads' HO103.out).2.2 | (with_reducible refine Kd.C_alloc ?_ _) | (with_reducible refine Kd.C_drewN ?_ _) | (with_reducible refine Kd.C_drew ?_))); (case side2 => exact (Kd.R_reads' HO103.out).2.1); rintro e w5 ⟨rfl, hb⟩; refine ⟨_, rfl, ?_⟩; have n0_ := Aside0.mk (Kd.R_below (by (with_reducible repeat (first | apply Kd.R_alloc | apply Kd.R_drewN | apply Kd.R_drew)); (first | exact HO103.out | exact Kd.R_mono HO103.out (fun _ _ => trivial) | exact Kd.R_mono HO103.out (fun _ hk => hk.1))) hb); have n1_ := Aside0.mk (below_step (by repeat (first | (with_reducible first | exact HB.out | apply below_alloc | apply pw_below_drewN | apply below_drew1) | exact HB.out)) hb); clear HO103; clear HB; have HO103 := n0_; have HB := n1_; clear n0_ n1_; (try clear hb); (try clear hb2); (try clear hk); (try clear hi)))
  go_ret
  exact ⟨by first | rfl | (simp [errW_none, errW_some] <;> rfl) | (simp [*, errW_none, errW_some] <;> rfl), by repeat (first | (with_reducible first | exact HB.out | apply below_alloc | apply pw_below_drewN | apply below_drew1) | exact HB.out)⟩

/-! ### earshotlaw05_short: function 14 -/
def earshotlaw05_short.f (a0 : ByteArray) : Option (ByteArray) := if (a0.size : Int) > 60 then (if 0 ≤ 60 then (if 60 ≤ (a0.size : Int) then (some (a0.extract 0 60)) else (none)) else (none)) else (some a0)
set_option maxHeartbeats 8000000 in
set_option maxRecDepth 100000 in
theorem earshotlaw05_short.calls (a0 : ByteArray) (r : ByteArray) (w : World) (h : earshotlaw05_short.f a0 = some r) :
    Calls Try.prog 14 #[.string a0] w fun e w' => e = .returned (.string r) ∧ Drawn0 w w' := by
  have H : (if (a0.size : Int) > 60 then (if 0 ≤ 60 then (if 60 ≤ (a0.size : Int) then (some (a0.extract 0 60)) else (none)) else (none)) else (some a0)) = some r := h
  clear h
  by_cases c2 : (a0.size : Int) > 60
  · rw [if_pos c2] at H
    have c2b0 : decide (60 < (a0.size : Int)) = true := decide_eq_true c2
    have c2b1 : decide (60 < a0.size) = true := decide_eq_true (by omega)
    clear c2
    by_cases c3 : 0 ≤ 60
    · rw [if_pos c3] at H
      have c3b0 := eq_true c3
      have c3b1 : decide (0 ≤ 60) = true := decide_eq_true c3
      clear c3
      by_cases c4 : 60 ≤ (a0.size : Int)
      · rw [if_pos c4] at H
        have c4b0 := eq_true c4
        have c4b1 : decide (60 ≤ (a0.size : Int)) = true := decide_eq_true c4
        clear c4
        obtain rfl := Option.some.inj H
        go_enter Try.func14, Try.ntmps14
        go_wp2
        go_ret
        exact ⟨by first | rfl | (simp; done) | (simp [*]; done), by repeat (first | exact Drawn0.refl _ | apply Drawn0.step)⟩
      · rw [if_neg c4] at H
        exact absurd H (by simp)
    · rw [if_neg c3] at H
      exact absurd H (by simp)
  · rw [if_neg c2] at H
    have c2b0 : decide (60 < (a0.size : Int)) = false := decide_eq_false c2
    have c2b1 : decide (60 < a0.size) = false := decide_eq_false (by omega)
    clear c2
    obtain rfl := Option.some.inj H
    go_enter Try.func14, Try.ntmps14
    go_wp2
    go_ret
    exact ⟨by first | rfl | (simp; done) | (simp [*]; done), by repeat (first | exact Drawn0.refl _ | apply Drawn0.step)⟩

/-! ### earshotref05_step: function 31 -/
def earshotref05_step.f (a0 : Int) : Option (Int) := if (Int.tmod a0 2) = 1 then (some (Go.bits .xor .u32 ((Int.tdiv a0 2) % 4294967296) 3988292384)) else (some ((Int.tdiv a0 2) % 4294967296))
set_option maxHeartbeats 8000000 in
set_option maxRecDepth 100000 in
theorem earshotref05_step.calls (a0 : Int) (r : Int) (w : World) (h : earshotref05_step.f a0 = some r) :
    Calls Try.prog 31 #[.int .u32 a0] w fun e w' => e = .returned (.int .u32 r) ∧ Drawn0 w w' := by
  have H : (if (Int.tmod a0 2) = 1 then (some (Go.bits .xor .u32 ((Int.tdiv a0 2) % 4294967296) 3988292384)) else (some ((Int.tdiv a0 2) % 4294967296))) = some r := h
  clear h
  by_cases c2 : (Int.tmod a0 2) = 1
  · rw [if_pos c2] at H
    have c2b0 : ((Int.tmod a0 2) == 1) = true := beq_iff_eq.mpr c2
    have c2b1 : ((Int.tmod a0 2) != 1) = false := bne_eq_false_iff_eq.mpr c2
    clear c2
    obtain rfl := Option.some.inj H
    go_enter Try.func31, Try.ntmps31
    go_wp2
    go_ret
    exact ⟨by first | rfl | (simp; done) | (simp [*]; done), by repeat (first | exact Drawn0.refl _ | apply Drawn0.step)⟩
  · rw [if_neg c2] at H
    have c2b0 : ((Int.tmod a0 2) == 1) = false := beq_eq_false_iff_ne.mpr c2
    have c2b1 : ((Int.tmod a0 2) != 1) = true := bne_iff_ne.mpr c2
    obtain rfl := Option.some.inj H
    go_enter Try.func31, Try.ntmps31
    go_wp2
    go_ret
    exact ⟨by first | rfl | (simp; done) | (simp [*]; done), by repeat (first | exact Drawn0.refl _ | apply Drawn0.step)⟩

/-! ### earshotref05_Sum: function 17 -/
mutual
def earshotref05_Sum.l0 : Nat → ByteArray → Int → Int → Option (Int)
  | 0, _, _, _ => none
  | k + 1, x0, x3, x4 => if x4 < (x0.size : Int) then (if 0 ≤ x4 then (earshotref05_Sum.l1 k x0 (Go.bits .xor .u32 x3 ((bt x0 x4) % 4294967296)) x4 0) else (none)) else (some (Go.bits .xor .u32 x3 4294967295))
def earshotref05_Sum.l1 : Nat → ByteArray → Int → Int → Int → Option (Int)
  | 0, _, _, _, _ => none
  | k + 1, x0, x3, x4, x5 => if x5 < 8 then ((earshotref05_step.f x3).bind fun t105 => (earshotref05_Sum.l1 k x0 t105 x4 (wrap64 (x5 + 1)))) else (earshotref05_Sum.l0 k x0 x3 (wrap64 (x4 + 1)))
end
def earshotref05_Sum.f (k : Nat) (a0 : ByteArray) : Option (Int) := earshotref05_Sum.l0 k a0 4294967295 0
theorem earshotref05_Sum.mono_l : ∀ k, (∀ y0 y1 y2, LeO (earshotref05_Sum.l0 k y0 y1 y2) (earshotref05_Sum.l0 (k + 1) y0 y1 y2)) ∧ (∀ y0 y1 y2 y3, LeO (earshotref05_Sum.l1 k y0 y1 y2 y3) (earshotref05_Sum.l1 (k + 1) y0 y1 y2 y3))
  | 0 => ⟨fun _ _ _ r h => by simp [earshotref05_Sum.l0] at h, fun _ _ _ _ r h => by simp [earshotref05_Sum.l1] at h⟩
  | k + 1 => by
    obtain ⟨ih0, ih1⟩ := earshotref05_Sum.mono_l k
    refine ⟨?_, ?_⟩
    · intro y0 y1 y2
      unfold earshotref05_Sum.l0
      repeat' first
      | (with_reducible exact ih0 _ _ _)
      | (with_reducible exact ih1 _ _ _ _)
      | (with_reducible exact LeO.refl _)
      | (with_reducible exact LeO.none _)
      | (with_reducible refine LeO.ite ?_ ?_)
      | (with_reducible refine LeO.bind ?_ (fun _ => ?_))
      | exact ih0 _ _ _
      | exact ih1 _ _ _ _
      | exact LeO.none _
      | refine LeO.ite ?_ ?_
      | refine LeO.bind ?_ (fun _ => ?_)
    · intro y0 y1 y2 y3
      unfold earshotref05_Sum.l1
      repeat' first
      | (with_reducible exact ih0 _ _ _)
      | (with_reducible exact ih1 _ _ _ _)
      | (with_reducible exact LeO.refl _)
      | (with_reducible exact LeO.none _)
      | (with_reducible refine LeO.ite ?_ ?_)
      | (with_reducible refine LeO.bind ?_ (fun _ => ?_))
      | exact ih0 _ _ _
      | exact ih1 _ _ _ _
      | exact LeO.none _
      | refine LeO.ite ?_ ?_
      | refine LeO.bind ?_ (fun _ => ?_)
theorem earshotref05_Sum.mono : ∀ a0 k, LeO (earshotref05_Sum.f k a0) (earshotref05_Sum.f (k + 1) a0) := by
  intro a0 k
  obtain ⟨ih0, ih1⟩ := earshotref05_Sum.mono_l k
  unfold earshotref05_Sum.f
  repeat' first
      | (with_reducible exact ih0 _ _ _)
      | (with_reducible exact ih1 _ _ _ _)
      | (with_reducible exact LeO.refl _)
      | (with_reducible exact LeO.none _)
      | (with_reducible refine LeO.ite ?_ ?_)
      | (with_reducible refine LeO.bind ?_ (fun _ => ?_))
      | exact ih0 _ _ _
      | exact ih1 _ _ _ _
      | exact LeO.none _
      | refine LeO.ite ?_ ?_
      | refine LeO.bind ?_ (fun _ => ?_)
set_option maxHeartbeats 8000000 in
set_option maxRecDepth 100000 in
theorem earshotref05_Sum.calls (k : Nat) (a0 : ByteArray) (r : Int) (w : World) (h : earshotref05_Sum.f k a0 = some r) :
    Calls Try.prog 17 #[.string a0] w fun e w' => e = .returned (.int .u32 r) ∧ Drawn0 w w' := by
  have H : (earshotref05_Sum.l0 k a0 4294967295 0) = some r := h
  clear h
  have H' := Aside0.mk H
  clear H
  go_enter Try.func17, Try.ntmps17
  go_wp2
  go_loopg [3, 4] k (fun kq v3 v4 w' => ∃ (x3_1 : Int) (x4_1 : Int), v3 = .int .u32 x3_1 ∧ v4 = .int .i64 x4_1 ∧ Aside0 (earshotref05_Sum.l0 kq a0 x3_1 x4_1 = some r) ∧ Aside0 (kq ≤ k) ∧ Drawn0 w w')
  case atStart => exact ⟨(4294967295), (0), (by first | rfl | (simp; done) | (simp [*]; done)), (by first | rfl | (simp; done) | (simp [*]; done)), H', ⟨Nat.le_refl _⟩, by repeat (first | exact Drawn0.refl _ | apply Drawn0.step)⟩
  case round =>
    clear H'
    try clear c1
    obtain ⟨x3_1, x4_1, rfl, rfl, HA, HK1, ⟨m1, rfl⟩⟩ := hrel
    cases gk with
    | zero => exact absurd HA.out (by simp [earshotref05_Sum.l0])
    | succ k1 =>
      have H := HA.out
      clear HA
      simp only [earshotref05_Sum.l0] at H
      by_cases c2 : x4_1 < (a0.size : Int)
      · rw [if_pos c2] at H
        have c2b0 : decide (x4_1 < (a0.size : Int)) = true := decide_eq_true c2
        clear c2
        by_cases c3 : 0 ≤ x4_1
        · rw [if_pos c3] at H
          have c3b0 : decide (0 ≤ x4_1) = true := decide_eq_true c3
          clear c3
          have H' := Aside0.mk H
          clear H
          have p4 : 0 ≤ (x4_1 : Int) := of_decide_eq_true (by first | (with_reducible assumption) | assumption)
          have q4 : x4_1 < (a0.size : Int) := of_decide_eq_true (by first | (with_reducible assumption) | assumption)
          have hx4 := bt_at a0 x4_1
          replace p4 := eq_true p4
          replace q4 := eq_true q4
          go_wp2
          go_loopg [3, 5] k1 (fun kq v3 v5 w' => ∃ (x3_2 : Int) (x5_2 : Int), v3 = .int .u32 x3_2 ∧ v5 = .int .i64 x5_2 ∧ Aside0 (earshotref05_Sum.l1 kq a0 x3_2 x4_1 x5_2 = some r) ∧ Aside0 (kq ≤ k1) ∧ Drawn0 w w')
          case atStart => exact ⟨(Go.bits .xor .u32 x3_1 ((bt a0 x4_1) % 4294967296)), (0), (by first | rfl | (simp; done) | (simp [*]; done)), (by first | rfl | (simp; done) | (simp [*]; done)), H', ⟨Nat.le_refl _⟩, by repeat (first | exact Drawn0.refl _ | apply Drawn0.step)⟩
          case round =>
            clear H'
            try clear c1
            try clear c2
            try clear c2b0
            try clear p2
            try clear c3
            try clear c3b0
            try clear p4
            try clear q4
            try clear hx4
            try clear p4
            try clear q4
            obtain ⟨x3_2, x5_2, rfl, rfl, HA, HK2, ⟨m2, rfl⟩⟩ := hrel
            cases gk with
            | zero => exact absurd HA.out (by simp [earshotref05_Sum.l1])
            | succ k2 =>
              have H := HA.out
              clear HA
              simp only [earshotref05_Sum.l1] at H
              by_cases c5 : x5_2 < 8
              · rw [if_pos c5] at H
                have c5b0 : decide (x5_2 < 8) = true := decide_eq_true c5
                clear c5
                replace H := Option.bind_eq_some_iff.mp H
                obtain ⟨t105, A60, H⟩ := H
                replace H : (earshotref05_Sum.l1 k2 a0 t105 x4_1 (wrap64 (x5_2 + 1))) = some r := H
                have A6 := Aside0.mk A60
                clear A60
                have H' := Aside0.mk H
                clear H
                go_wp2_with (first | ((with_reducible refine gate_callee (f := 31) rfl ?_); refine goesL_ (some 23) rfl rfl Try.func31 (by kernel_rfl) rfl #[.int .u32 x3_2] rfl (by (try simp only [List.map_toArray, List.map_cons, List.map_nil]); first | done | rfl | (simp only [List.length_drop, List.length_take]; rfl)) ?_; (with_reducible refine (earshotref05_step.calls x3_2 t105 _ A6.out).mono ?_); rintro e w' ⟨rfl, ⟨nd, rfl⟩⟩; refine ⟨_, rfl, ?_⟩))
                go_roundg k2
                case measure => have := HK1.out; have := HK2.out; omega
                case rel => exact ⟨(t105), (wrap64 (x5_2 + 1)), (by first | rfl | (simp; done) | (simp [*]; done)), (by first | rfl | (simp; done) | (simp [*]; done)), H', ⟨by have := HK1.out; have := HK2.out; omega⟩, by repeat (first | exact Drawn0.refl _ | apply Drawn0.step)⟩
              · rw [if_neg c5] at H
                have c5b0 : decide (x5_2 < 8) = false := decide_eq_false c5
                clear c5
                have H' := Aside0.mk H
                clear H
                go_wp2
                go_roundg k2
                case measure => have := HK1.out; have := HK2.out; omega
                case rel => exact ⟨(x3_2), (wrap64 (x4_1 + 1)), (by first | rfl | (simp; done) | (simp [*]; done)), (by first | rfl | (simp; done) | (simp [*]; done)), H', ⟨by have := HK1.out; have := HK2.out; omega⟩, by repeat (first | exact Drawn0.refl _ | apply Drawn0.step)⟩
        · rw [if_neg c3] at H
          exact absurd H (by simp)
      · rw [if_neg c2] at H
        have c2b0 : decide (x4_1 < (a0.size : Int)) = false := decide_eq_false c2
        clear c2
        obtain rfl := Option.some.inj H
        go_wp2
        go_ret
        exact ⟨by first | rfl | (simp; done) | (simp [*]; done), by repeat (first | exact Drawn0.refl _ | apply Drawn0.step)⟩

/-! ### earshotref05_Seal: function 16 -/
def earshotref05_Seal.f (k : Nat) (a0 : ByteArray) : Option (ByteArray) := (earshotref05_Sum.f k a0).bind fun t106 => ((some (([(t106) % 256, (t106 / 256) % 256, (t106 / 65536) % 256, (t106 / 16777216) % 256] : List Int) : List Int)).bind fun y107 => (if a0.size + (strOfNums y107).size ≤ 9223372036854775807 then (some (a0 ++ (strOfNums y107))) else (none)))
theorem earshotref05_Seal.mono : ∀ a0 k, LeO (earshotref05_Seal.f k a0) (earshotref05_Seal.f (k + 1) a0) := by
  intro a0 k
  unfold earshotref05_Seal.f
  repeat' first
      | (with_reducible exact earshotref05_Sum.mono _ _)
      | (with_reducible exact LeO.refl _)
      | (with_reducible exact LeO.none _)
      | (with_reducible refine LeO.ite ?_ ?_)
      | (with_reducible refine LeO.bind ?_ (fun _ => ?_))
      | exact earshotref05_Sum.mono _ _
      | exact LeO.none _
      | refine LeO.ite ?_ ?_
      | refine LeO.bind ?_ (fun _ => ?_)
set_option maxHeartbeats 8000000 in
set_option maxRecDepth 100000 in
theorem earshotref05_Seal.calls (k : Nat) (a0 : ByteArray) (r : ByteArray) (w : World) (h : earshotref05_Seal.f k a0 = some r) :
    Calls Try.prog 16 #[.string a0] w fun e w' => e = .returned (.string r) ∧ Below w.heap.size w w' := by
  have HB := Aside0.mk (Below.refl w.heap.size w)
  have H : ((earshotref05_Sum.f k a0).bind fun t106 => ((some (([(t106) % 256, (t106 / 256) % 256, (t106 / 65536) % 256, (t106 / 16777216) % 256] : List Int) : List Int)).bind fun y107 => (if a0.size + (strOfNums y107).size ≤ 9223372036854775807 then (some (a0 ++ (strOfNums y107))) else (none)))) = some r := h
  clear h
  replace H := Option.bind_eq_some_iff.mp H
  obtain ⟨t106, A20, H⟩ := H
  replace H : ((some (([(t106) % 256, (t106 / 256) % 256, (t106 / 65536) % 256, (t106 / 16777216) % 256] : List Int) : List Int)).bind fun y107 => (if a0.size + (strOfNums y107).size ≤ 9223372036854775807 then (some (a0 ++ (strOfNums y107))) else (none))) = some r := H
  have A2 := Aside0.mk A20
  clear A20
  obtain ⟨y107, hy107⟩ : ∃ y_ : List Int, y_ = (([(t106) % 256, (t106 / 256) % 256, (t106 / 65536) % 256, (t106 / 16777216) % 256] : List Int)) := ⟨_, rfl⟩
  replace H : (if a0.size + (strOfNums y107).size ≤ 9223372036854775807 then (some (a0 ++ (strOfNums y107))) else (none)) = some r := by first | (rw [hy107]; with_reducible exact H) | (have H2_ := (Option.bind_some _ _).symm.trans H; rw [hy107]; with_reducible exact H2_) | (have H2_ := (Option.bind_some _ _).symm.trans H; with_reducible exact H2_) | with_reducible exact H | (rw [hy107]; exact H) | exact H
  have Ny107 := Aside0.mk hy107
  clear hy107
  by_cases c3 : a0.size + (strOfNums y107).size ≤ 9223372036854775807
  · rw [if_pos c3] at H
    have c3b0 := eq_true c3
    have c3b1 : decide (a0.size + (strOfNums y107).size ≤ 9223372036854775807) = true := decide_eq_true c3
    try have c3b2 : (9223372036854775807 < a0.size + (strOfNums y107).size) = False := eq_false (Nat.not_lt.2 c3)
    obtain rfl := Option.some.inj H
    go_enter Try.func16, Try.ntmps16
    go_wp2_with (first | ((with_reducible refine gate_callee (f := 17) rfl ?_); refine goesL_ (some 5) rfl rfl Try.func17 (by kernel_rfl) rfl #[.string a0] rfl (by (try simp only [List.map_toArray, List.map_cons, List.map_nil]); first | done | rfl | (simp only [List.length_drop, List.length_take]; rfl)) ?_; (with_reducible refine (earshotref05_Sum.calls k a0 t106 _ A2.out).mono ?_); rintro e w' ⟨rfl, ⟨nd, rfl⟩⟩; refine ⟨_, rfl, ?_⟩) | ((with_reducible refine gate_dst (N := 18) rfl ?_); refine Kd.R_lit (Kd.int .u8) _ 5 ?hg (N := 18) ?hd (xs := ([(t106) % 256, (t106 / 256) % 256, (t106 / 65536) % 256, (t106 / 16777216) % 256] : List Int)) (inner := [.int .u8 ((t106) % 256), .int .u8 ((t106 / 256) % 256), .int .u8 ((t106 / 65536) % 256), .int .u8 ((t106 / 16777216) % 256)]) (ok := fun _ => True) (okp := fun _ => True) ?hr ?hp (fun _ hk => hk) trivial (Below.refl _ _) (Nat.le_refl _) (by simp) ?_; (case hd => rfl); (case hg => first | rfl | exact wanted_on rfl rfl rfl (by first | assumption | rfl | (simp [*]; done))); (case hr => first | (go_simp; done) | (go_simp; rfl)); (case hp => exact (Reps.one (show Kd.M (Kd.int .u8) _ _ _ ((t106) % 256) [.int .u8 ((t106) % 256)] from rfl) (Reps.one (show Kd.M (Kd.int .u8) _ _ _ ((t106 / 256) % 256) [.int .u8 ((t106 / 256) % 256)] from rfl) (Reps.one (show Kd.M (Kd.int .u8) _ _ _ ((t106 / 65536) % 256) [.int .u8 ((t106 / 65536) % 256)] from rfl) (Reps.one (show Kd.M (Kd.int .u8) _ _ _ ((t106 / 16777216) % 256) [.int .u8 ((t106 / 16777216) % 256)] from rfl) (Reps.none _ _)))))); intro v108 w4 ho5 hb hg_ hnew_; clear hg_ hnew_; (first | rw [← Ny107.out] at ho5 | (simp only [Int.reduceToNat] at ho5; rw [← Ny107.out] at ho5)); have n0_ := Aside0.mk (Kd.R_lower ho5 (below_size (by repeat (first | (with_reducible first | exact HB.out | apply below_alloc | apply pw_below_drewN | apply below_drew1) | exact HB.out)))); have n1_ := Aside0.mk (below_step (by repeat (first | (with_reducible first | exact HB.out | apply below_alloc | apply pw_below_drewN | apply below_drew1) | exact HB.out)) hb); clear HB; have HO109 := n0_; have HB := n1_; clear n0_ n1_; clear hb ho5; have hcv6 := own_string (P := Try.prog) Try.underlying28 Try.underlying5 Try.underlying9 (Kd.own_of_R HO109.out)))
    go_ret
    exact ⟨by first | rfl | (simp [errW_none, errW_some] <;> rfl) | (simp [*, errW_none, errW_some] <;> rfl), by repeat (first | (with_reducible first | exact HB.out | apply below_alloc | apply pw_below_drewN | apply below_drew1) | exact HB.out)⟩
  · rw [if_neg c3] at H
    exact absurd H (by simp)

/-! ### crc_Seal: function 18 -/
def crcSumOf (s : ByteArray) : Int := Go.bits .xor .u32 4294967295 (crcAll [s] 4294967295)
def crcLe : Nat → Int → List Int
  | 0, _ => []
  | k + 1, n => n % 256 :: crcLe k (n / 256)
def crc_Seal.f (a0 : ByteArray) : Option (ByteArray) := if a0.size ≤ 1000000 then some (strOfNums (bytesOf a0 ++ crcLe 4 (crcSumOf a0))) else none
theorem crc_made (W : World) (cap : Nat) (hc : cap ≤ 1000004) : (W.alloc (.cells (madeCells #[.int .u8 0] cap) 5)).ownsRow W.heap.size 5 1 (.slice (some ⟨W.heap.size, 0, none⟩) 0 cap) 0 (nums .u8 []) := by
  refine ⟨rfl, .inr ⟨W.heap.size, cap, _, rfl, Nat.le_refl _, by simpa using heap_alloc_new W _, Nat.zero_le _, by simp only [maxLen]; omega, by simp [size_madeCells], rfl⟩⟩
theorem crc_str1 (W : World) (t : Nat) (s : ByteArray) : Kd.string.C (W.alloc (.cells #[.string s] t)) (some ⟨W.heap.size, 0, none⟩) [s].length [s] :=
  Kd.C_of_reads (d := ByteArray.empty) (h1 := fun _ => rfl) ⟨rfl, by simp, fun _ => ⟨_, rfl, fun j hj => by
    obtain rfl : j = 0 := by simpa using hj
    rw [add_plain]; exact cell_of_one (heap_alloc_new W (.cells #[.string s] t))⟩⟩
theorem crc_info8 : (Try.prog.info? 5).map (fun i => (i.zero, i.size, i.bytes)) = some (some (.int .u8 0), 1, 1) := by kernel_rfl
theorem crc_make (c : Int) (h0 : 0 ≤ c) (hc : c ≤ 1000004) (W : World) :
    (Instr.makeSlice 28 (.int .i64 0) (.int .i64 c)).run Try.prog W = .ok (.slice (some ⟨W.heap.size, 0, none⟩) 0 c.toNat) (W.alloc (.cells (madeCells #[.int .u8 0] c.toNat) 5)) := by
  obtain ⟨i, hi, hzz⟩ := Option.map_eq_some_iff.1 crc_info8
  simp only [Prod.mk.injEq] at hzz
  obtain ⟨hz, hs, hb⟩ := hzz
  have := run_make (P := Try.prog) W 28 5 i (.int .u8 0) Try.underlying28 hi hz .i64 .i64 0 c (Int.le_refl _) h0 (by rw [hb]; omega) (by omega)
  rw [hs, Nat.mul_one] at this
  exact this
set_option maxHeartbeats 8000000 in
theorem crc_Seal.calls (a0 : ByteArray) (r : ByteArray) (w : World) (h : crc_Seal.f a0 = some r) :
    Calls Try.prog 18 #[.string a0] w fun e w' => e = .returned (.string r) ∧ Below w.heap.size w w' := by
  have hs : a0.size ≤ 1000000 := by
    unfold crc_Seal.f at h
    split at h
    · assumption
    · cases h
  have HR : Aside0 (strOfNums (bytesOf a0 ++ crcLe 4 (crcSumOf a0)) = r) := by
    unfold crc_Seal.f at h
    rw [if_pos hs] at h
    exact ⟨Option.some.inj h⟩
  clear h
  have hsum : crc_Sum.f [a0] = some (crcSumOf a0) := by
    unfold crc_Sum.f
    rw [if_pos (by simp [crcOk]; omega)]
    rfl
  have HSUM := Aside0.mk hsum
  clear hsum
  have hmk := fun W => crc_make ((a0.size : Int) + 4) (by omega) (by omega) W
  rw [show ((a0.size : Int) + 4).toNat = a0.size + 4 by omega] at hmk
  go_enter Try.func18, Try.ntmps18
  go_wp2_with (first
    | (at_builtin; refine print_append_str (w0 := w) w.heap.size rfl (.tmp 9) _ 28 9 5 rfl Try.underlying28 Try.underlying9 crc_info8 (.slice (some ⟨w.heap.size, 0, none⟩) 0 (a0.size + 4)) [] a0 rfl rfl (crc_made w _ (by omega)) (below_alloc (Below.refl _ _) _) (by simp) (by simp; omega) ?_; intro v1 w1 ho hb hg)
    | (go_at_call 15; refine (crc_Sum.calls _ _ [a0] _ _ (crc_str1 _ _ _) (Nat.le_refl _) HSUM.out).mono ?_; rintro e w2 ⟨rfl, hb2⟩))
  have HO := Aside0.mk (pw_own_below (ho.alloc _) hb2)
  have HB := Aside0.mk (below_then (below_alloc hb (.cells #[.string a0] 9)) (by have := hb.size; simp; omega) hb2)
  clear ho hb hg hb2 hmk
  rw [List.nil_append] at HO
  have HN : Aside0 (crcLe 0 (crcSumOf a0) = crcLe 0 (crcSumOf a0)) := ⟨rfl⟩
  go_loopw [3, 4, 15] (fun v3 v4 v15 wr => ∃ (m : Nat) (xs ys : List Int) (n : Int), m ≤ 4 ∧ v15 = .int .i64 (m : Int) ∧ v4 = .int .u32 n ∧ Aside0 (wr.ownsRow w.heap.size 5 1 v3 xs.length (nums .u8 xs)) ∧ Aside0 (Below w.heap.size w wr) ∧ Aside0 (xs ++ crcLe (4 - m) n = bytesOf a0 ++ crcLe 4 (crcSumOf a0)) ∧ Aside0 (xs.length = a0.size + m)) (fun _ _ v _ => 4 - (intOf v).toNat)
  case atStart => exact ⟨0, bytesOf a0, [], _, by omega, rfl, rfl, HO, HB, ⟨rfl⟩, ⟨by rw [bytesOf_length]; rfl⟩⟩
  case round =>
    clear HO HB HN
    obtain ⟨m, xs, ys, n, hm, rfl, rfl, HO, HB, HE, HL⟩ := hrel
    by_cases hlt : m < 4
    · go_wp2_with (at_builtin; refine print_append_num (w0 := w) w.heap.size rfl (.tmp 17) (.tmp 20) 28 5 .u8 1 rfl Try.underlying28 crc_info8 (by decide) _ xs (n % 256) rfl rfl HO.out HB.out HB.out.size (by rw [HL.out]; omega) ?_; intro v1 w1 ho hb hg hat; have HO2 := Aside0.mk ho; have HB2 := Aside0.mk hb; clear ho hb hg hat)
      refine ⟨⟨m + 1, xs ++ [n % 256], [], n / 256, by omega, by go_num, rfl, HO2, HB2, ⟨?_⟩, ⟨by rw [List.length_append, HL.out]; rfl⟩⟩, by simp [intOf]; omega⟩
      rw [← HE.out, show 4 - m = (4 - (m + 1)) + 1 by omega, crcLe, List.append_assoc]
      rfl
    · obtain rfl : m = 4 := by omega
      have hst := own_string (P := Try.prog) (src := 28) (dst := 9) Try.underlying28 Try.underlying5 Try.underlying9 HO.out
      go_wp2
      go_ret
      refine ⟨?_, HB.out⟩
      rw [← HR.out, ← HE.out]
      simp [crcLe]

/-! ### crc_Open: function 20 -/
def crc_Open.f (a0 : ByteArray) : Option (ByteArray × Bool) := if (a0.size : Int) < 4 then (some ((⟨#[]⟩ : ByteArray), false)) else (if 0 ≤ (wrap64 ((a0.size : Int) - 4)) then (if (wrap64 ((a0.size : Int) - 4)) ≤ (a0.size : Int) then ((crc_Seal.f (a0.extract 0 ((wrap64 ((a0.size : Int) - 4)) : Int).toNat)).bind fun t110 => (if t110.toList = a0.toList then (some (a0.extract 0 ((wrap64 ((a0.size : Int) - 4)) : Int).toNat, true)) else (some ((⟨#[]⟩ : ByteArray), false)))) else (none)) else (none))
set_option maxHeartbeats 8000000 in
set_option maxRecDepth 100000 in
theorem crc_Open.calls (a0 : ByteArray) (r1 : ByteArray) (r2 : Bool) (w : World) (h : crc_Open.f a0 = some (r1, r2)) :
    Calls Try.prog 20 #[.string a0] w fun e w' => e = .returned (.tuple #[.string r1, .bool r2]) ∧ Below w.heap.size w w' := by
  have HB := Aside0.mk (Below.refl w.heap.size w)
  have H : (if (a0.size : Int) < 4 then (some ((⟨#[]⟩ : ByteArray), false)) else (if 0 ≤ (wrap64 ((a0.size : Int) - 4)) then (if (wrap64 ((a0.size : Int) - 4)) ≤ (a0.size : Int) then ((crc_Seal.f (a0.extract 0 ((wrap64 ((a0.size : Int) - 4)) : Int).toNat)).bind fun t110 => (if t110.toList = a0.toList then (some (a0.extract 0 ((wrap64 ((a0.size : Int) - 4)) : Int).toNat, true)) else (some ((⟨#[]⟩ : ByteArray), false)))) else (none)) else (none))) = some (r1, r2) := h
  clear h
  by_cases c2 : (a0.size : Int) < 4
  · rw [if_pos c2] at H
    have c2b0 : decide ((a0.size : Int) < 4) = true := decide_eq_true c2
    have c2b1 : decide (a0.size < 4) = true := decide_eq_true (by omega)
    clear c2
    simp only [Option.some.injEq, Prod.mk.injEq] at H
    obtain ⟨rfl, rfl⟩ := H
    go_enter Try.func20, Try.ntmps20
    go_wp2
    go_ret2
    exact ⟨by first | rfl | (simp [errW_none, errW_some] <;> rfl) | (simp [*, errW_none, errW_some] <;> rfl), by repeat (first | (with_reducible first | exact HB.out | apply below_alloc | apply pw_below_drewN | apply below_drew1) | exact HB.out)⟩
  · rw [if_neg c2] at H
    have c2b0 : decide ((a0.size : Int) < 4) = false := decide_eq_false c2
    have c2b1 : decide (a0.size < 4) = false := decide_eq_false (by omega)
    clear c2
    obtain ⟨ji3, hji3⟩ : ∃ j_ : Int, (wrap64 ((a0.size : Int) - 4)) = j_ := ⟨_, rfl⟩
    replace H : (if 0 ≤ (ji3) then (if (ji3) ≤ (a0.size : Int) then ((crc_Seal.f (a0.extract 0 ((ji3) : Int).toNat)).bind fun t110 => (if t110.toList = a0.toList then (some (a0.extract 0 ((ji3) : Int).toNat, true)) else (some ((⟨#[]⟩ : ByteArray), false)))) else (none)) else (none)) = some (r1, r2) := by first | (rw [hji3] at H; exact H) | (simp only [hji3] at H ⊢; exact H)
    have hji3w : (IntKind.i64.wrap ((a0.size : Int) - 4)) = ji3 := (i64_w _).trans hji3
    by_cases c4 : 0 ≤ (ji3)
    · rw [if_pos c4] at H
      have c4b0 := eq_true c4
      have c4b1 : decide (0 ≤ (ji3)) = true := decide_eq_true c4
      clear c4
      by_cases c5 : (ji3) ≤ (a0.size : Int)
      · rw [if_pos c5] at H
        have c5b0 := eq_true c5
        have c5b1 : decide ((ji3) ≤ (a0.size : Int)) = true := decide_eq_true c5
        clear c5
        replace H := Option.bind_eq_some_iff.mp H
        obtain ⟨t110, A60, H⟩ := H
        replace H : (if t110.toList = a0.toList then (some (a0.extract 0 ((ji3) : Int).toNat, true)) else (some ((⟨#[]⟩ : ByteArray), false))) = some (r1, r2) := H
        have A6 := Aside0.mk A60
        clear A60
        by_cases c7 : t110.toList = a0.toList
        · rw [if_pos c7] at H
          have c7b0 : (t110.toList == a0.toList) = true := beq_iff_eq.mpr c7
          have c7b1 : (t110.toList != a0.toList) = false := bne_eq_false_iff_eq.mpr c7
          clear c7
          simp only [Option.some.injEq, Prod.mk.injEq] at H
          obtain ⟨rfl, rfl⟩ := H
          go_enter Try.func20, Try.ntmps20
          go_wp2_with (first | ((with_reducible refine gate_callee (f := 18) rfl ?_); refine goesL_ (some 14) rfl rfl Try.func18 (by kernel_rfl) rfl #[.string (a0.extract 0 ((ji3) : Int).toNat)] rfl (by (try simp only [List.map_toArray, List.map_cons, List.map_nil]); first | done | (simp only [hji3]; rfl) | rfl | (simp only [List.length_drop, List.length_take]; rfl)) ?_; (with_reducible refine (crc_Seal.calls (a0.extract 0 ((ji3) : Int).toNat) t110 _ A6.out).mono ?_); rintro e w8 ⟨rfl, hb⟩; refine ⟨_, rfl, ?_⟩; have n0_ := Aside0.mk (below_step (by repeat (first | (with_reducible first | exact HB.out | apply below_alloc | apply pw_below_drewN | apply below_drew1) | exact HB.out)) hb); clear HB; have HB := n0_; clear n0_; (try clear hb); (try clear hb2); (try clear hk); (try clear hi)))
          go_ret2
          exact ⟨by first | rfl | (simp [errW_none, errW_some] <;> rfl) | (simp only [← hji3]; first | rfl | (simp [errW_none, errW_some] <;> rfl)) | (simp [*, errW_none, errW_some] <;> rfl), by repeat (first | (with_reducible first | exact HB.out | apply below_alloc | apply pw_below_drewN | apply below_drew1) | exact HB.out)⟩
        · rw [if_neg c7] at H
          have c7b0 : (t110.toList == a0.toList) = false := beq_eq_false_iff_ne.mpr c7
          have c7b1 : (t110.toList != a0.toList) = true := bne_iff_ne.mpr c7
          simp only [Option.some.injEq, Prod.mk.injEq] at H
          obtain ⟨rfl, rfl⟩ := H
          go_enter Try.func20, Try.ntmps20
          go_wp2_with (first | ((with_reducible refine gate_callee (f := 18) rfl ?_); refine goesL_ (some 14) rfl rfl Try.func18 (by kernel_rfl) rfl #[.string (a0.extract 0 ((ji3) : Int).toNat)] rfl (by (try simp only [List.map_toArray, List.map_cons, List.map_nil]); first | done | (simp only [hji3]; rfl) | rfl | (simp only [List.length_drop, List.length_take]; rfl)) ?_; (with_reducible refine (crc_Seal.calls (a0.extract 0 ((ji3) : Int).toNat) t110 _ A6.out).mono ?_); rintro e w9 ⟨rfl, hb⟩; refine ⟨_, rfl, ?_⟩; have n0_ := Aside0.mk (below_step (by repeat (first | (with_reducible first | exact HB.out | apply below_alloc | apply pw_below_drewN | apply below_drew1) | exact HB.out)) hb); clear HB; have HB := n0_; clear n0_; (try clear hb); (try clear hb2); (try clear hk); (try clear hi)))
          go_ret2
          exact ⟨by first | rfl | (simp [errW_none, errW_some] <;> rfl) | (simp only [← hji3]; first | rfl | (simp [errW_none, errW_some] <;> rfl)) | (simp [*, errW_none, errW_some] <;> rfl), by repeat (first | (with_reducible first | exact HB.out | apply below_alloc | apply pw_below_drewN | apply below_drew1) | exact HB.out)⟩
      · rw [if_neg c5] at H
        exact absurd H (by simp)
    · rw [if_neg c4] at H
      exact absurd H (by simp)

/-! ### earshotref05_Open: function 32 -/
def earshotref05_Open.f (k : Nat) (a0 : ByteArray) : Option (ByteArray × Bool) := if (a0.size : Int) < 4 then (some ((⟨#[]⟩ : ByteArray), false)) else (if 0 ≤ (wrap64 ((a0.size : Int) - 4)) then (if (wrap64 ((a0.size : Int) - 4)) ≤ (a0.size : Int) then ((earshotref05_Seal.f k (a0.extract 0 ((wrap64 ((a0.size : Int) - 4)) : Int).toNat)).bind fun t112 => (if t112.toList = a0.toList then (some (a0.extract 0 ((wrap64 ((a0.size : Int) - 4)) : Int).toNat, true)) else (some ((⟨#[]⟩ : ByteArray), false)))) else (none)) else (none))
theorem earshotref05_Open.mono : ∀ a0 k, LeO (earshotref05_Open.f k a0) (earshotref05_Open.f (k + 1) a0) := by
  intro a0 k
  unfold earshotref05_Open.f
  repeat' first
      | (with_reducible exact earshotref05_Seal.mono _ _)
      | (with_reducible exact LeO.refl _)
      | (with_reducible exact LeO.none _)
      | (with_reducible refine LeO.ite ?_ ?_)
      | (with_reducible refine LeO.bind ?_ (fun _ => ?_))
      | exact earshotref05_Seal.mono _ _
      | exact LeO.none _
      | refine LeO.ite ?_ ?_
      | refine LeO.bind ?_ (fun _ => ?_)
set_option maxHeartbeats 8000000 in
set_option maxRecDepth 100000 in
theorem earshotref05_Open.calls (k : Nat) (a0 : ByteArray) (r1 : ByteArray) (r2 : Bool) (w : World) (h : earshotref05_Open.f k a0 = some (r1, r2)) :
    Calls Try.prog 32 #[.string a0] w fun e w' => e = .returned (.agg #[.string r1, .bool r2]) ∧ Below w.heap.size w w' := by
  have hu51 := Try.underlying51
  have HB := Aside0.mk (Below.refl w.heap.size w)
  have H : (if (a0.size : Int) < 4 then (some ((⟨#[]⟩ : ByteArray), false)) else (if 0 ≤ (wrap64 ((a0.size : Int) - 4)) then (if (wrap64 ((a0.size : Int) - 4)) ≤ (a0.size : Int) then ((earshotref05_Seal.f k (a0.extract 0 ((wrap64 ((a0.size : Int) - 4)) : Int).toNat)).bind fun t112 => (if t112.toList = a0.toList then (some (a0.extract 0 ((wrap64 ((a0.size : Int) - 4)) : Int).toNat, true)) else (some ((⟨#[]⟩ : ByteArray), false)))) else (none)) else (none))) = some (r1, r2) := h
  clear h
  by_cases c2 : (a0.size : Int) < 4
  · rw [if_pos c2] at H
    have c2b0 : decide ((a0.size : Int) < 4) = true := decide_eq_true c2
    have c2b1 : decide (a0.size < 4) = true := decide_eq_true (by omega)
    clear c2
    simp only [Option.some.injEq, Prod.mk.injEq] at H
    obtain ⟨rfl, rfl⟩ := H
    go_enter Try.func32, Try.ntmps32
    go_wp2_with (first | ((with_reducible refine gate_dst (N := 2) rfl ?_); refine box_event ?hg (N := 2) ?hd (cs := #[.string (⟨#[]⟩ : ByteArray), .bool false]) (t := 51) ?hr ?_; (case hd => rfl); (case hg => first | rfl | exact wanted_on rfl rfl rfl (by first | assumption | rfl | (simp [*]; done))); (case hr => first | (go_simp; done) | (go_simp; rfl)); intro gb111 hg w3 hbox hb; have n0_ := Aside0.mk (below_step (by repeat (first | (with_reducible first | exact HB.out | apply below_alloc | apply pw_below_drewN | apply below_drew1) | exact HB.out)) hb); have n1_ := Aside0.mk (hbox); have n2_ := Aside0.mk ((by rw [hg]; exact (below_size (by repeat (first | (with_reducible first | exact HB.out | apply below_alloc | apply pw_below_drewN | apply below_drew1) | exact HB.out))) : w.heap.size ≤ gb111)); have n3_ := Aside0.mk ((by rw [hg]; exact (below_size (by repeat (first | (with_reducible first | exact HB.out | apply below_alloc | apply pw_below_drewN | apply below_drew1) | exact HB.out))) : w.heap.size ≤ gb111)); clear HB; have HB := n0_; have BK111 := n1_; have GW111 := n2_; have GE111 := n3_; clear n0_ n1_ n2_ n3_; clear hb hbox hg; have hcz4_0 : w3.cell? ⟨gb111, 0, none⟩ = some (.string (⟨#[]⟩ : ByteArray)) := (blk_cell BK111.out 0).trans rfl; have hcz4_1 : w3.cell? ⟨gb111, 1, none⟩ = some (.bool false) := (blk_cell BK111.out 1).trans rfl; have hfz4_0 := blk_frozen BK111.out 0; have hfz4_1 := blk_frozen BK111.out 1))
    refine bodyPost_ret (results_cell_row rfl _ _ gb111 51 #[.string (⟨#[]⟩ : ByteArray), .bool false] (0, 0) _ rfl (by (with_reducible repeat (first | refine blk_drewN ?_ _ | refine blk_drew ?_ | refine blk_alloc ?_ _)); refine blk_put (cs := #[.string (⟨#[]⟩ : ByteArray), .bool false]) ?_ 1 _ rfl; (with_reducible repeat (first | refine blk_drewN ?_ _ | refine blk_drew ?_ | refine blk_alloc ?_ _)); refine blk_put (cs := #[.string (⟨#[]⟩ : ByteArray), .bool false]) ?_ 0 _ rfl; (with_reducible repeat (first | refine blk_drewN ?_ _ | refine blk_drew ?_ | refine blk_alloc ?_ _)); exact BK111.out) Try.underlying51 rfl (by kernel_rfl)) rfl ?_
    exact ⟨by first | rfl | (simp [errW_none, errW_some] <;> rfl) | (simp [*, errW_none, errW_some] <;> rfl), by repeat (first | (with_reducible first | exact HB.out | apply below_alloc | apply pw_below_drewN | apply below_drew1 | refine below_set ?_ GE111.out) | exact HB.out)⟩
  · rw [if_neg c2] at H
    have c2b0 : decide ((a0.size : Int) < 4) = false := decide_eq_false c2
    have c2b1 : decide (a0.size < 4) = false := decide_eq_false (by omega)
    clear c2
    obtain ⟨ji5, hji5⟩ : ∃ j_ : Int, (wrap64 ((a0.size : Int) - 4)) = j_ := ⟨_, rfl⟩
    replace H : (if 0 ≤ (ji5) then (if (ji5) ≤ (a0.size : Int) then ((earshotref05_Seal.f k (a0.extract 0 ((ji5) : Int).toNat)).bind fun t112 => (if t112.toList = a0.toList then (some (a0.extract 0 ((ji5) : Int).toNat, true)) else (some ((⟨#[]⟩ : ByteArray), false)))) else (none)) else (none)) = some (r1, r2) := by first | (rw [hji5] at H; exact H) | (simp only [hji5] at H ⊢; exact H)
    have hji5w : (IntKind.i64.wrap ((a0.size : Int) - 4)) = ji5 := (i64_w _).trans hji5
    by_cases c6 : 0 ≤ (ji5)
    · rw [if_pos c6] at H
      have c6b0 := eq_true c6
      have c6b1 : decide (0 ≤ (ji5)) = true := decide_eq_true c6
      clear c6
      by_cases c7 : (ji5) ≤ (a0.size : Int)
      · rw [if_pos c7] at H
        have c7b0 := eq_true c7
        have c7b1 : decide ((ji5) ≤ (a0.size : Int)) = true := decide_eq_true c7
        clear c7
        replace H := Option.bind_eq_some_iff.mp H
        obtain ⟨t112, A80, H⟩ := H
        replace H : (if t112.toList = a0.toList then (some (a0.extract 0 ((ji5) : Int).toNat, true)) else (some ((⟨#[]⟩ : ByteArray), false))) = some (r1, r2) := H
        have A8 := Aside0.mk A80
        clear A80
        by_cases c9 : t112.toList = a0.toList
        · rw [if_pos c9] at H
          have c9b0 : (t112.toList == a0.toList) = true := beq_iff_eq.mpr c9
          have c9b1 : (t112.toList != a0.toList) = false := bne_eq_false_iff_eq.mpr c9
          clear c9
          simp only [Option.some.injEq, Prod.mk.injEq] at H
          obtain ⟨rfl, rfl⟩ := H
          go_enter Try.func32, Try.ntmps32
          go_wp2_with (first | ((with_reducible refine gate_dst (N := 2) rfl ?_); refine box_event ?hg (N := 2) ?hd (cs := #[.string (⟨#[]⟩ : ByteArray), .bool false]) (t := 51) ?hr ?_; (case hd => rfl); (case hg => first | rfl | exact wanted_on rfl rfl rfl (by first | assumption | rfl | (simp [*]; done))); (case hr => first | (go_simp; done) | (go_simp; rfl)); intro gb111 hg w10 hbox hb; have n0_ := Aside0.mk (below_step (by repeat (first | (with_reducible first | exact HB.out | apply below_alloc | apply pw_below_drewN | apply below_drew1) | exact HB.out)) hb); have n1_ := Aside0.mk (hbox); have n2_ := Aside0.mk ((by rw [hg]; exact (below_size (by repeat (first | (with_reducible first | exact HB.out | apply below_alloc | apply pw_below_drewN | apply below_drew1) | exact HB.out))) : w.heap.size ≤ gb111)); have n3_ := Aside0.mk ((by rw [hg]; exact (below_size (by repeat (first | (with_reducible first | exact HB.out | apply below_alloc | apply pw_below_drewN | apply below_drew1) | exact HB.out))) : w.heap.size ≤ gb111)); clear HB; have HB := n0_; have BK111 := n1_; have GW111 := n2_; have GE111 := n3_; clear n0_ n1_ n2_ n3_; clear hb hbox hg) | ((with_reducible refine gate_callee (f := 16) rfl ?_); refine goesL_ (some 14) rfl rfl Try.func16 (by kernel_rfl) rfl #[.string (a0.extract 0 ((ji5) : Int).toNat)] rfl (by (try simp only [List.map_toArray, List.map_cons, List.map_nil]); first | done | (simp only [hji5]; rfl) | rfl | (simp only [List.length_drop, List.length_take]; rfl)) ?_; (with_reducible refine (earshotref05_Seal.calls k (a0.extract 0 ((ji5) : Int).toNat) t112 _ A8.out).mono ?_); rintro e w11 ⟨rfl, hb⟩; refine ⟨_, rfl, ?_⟩; have n0_ := Aside0.mk (blk_below (g := gb111) (o := .cells #[.string (⟨#[]⟩ : ByteArray), .bool false] 51 (0, 0)) (by (with_reducible repeat (first | refine blk_drewN ?_ _ | refine blk_drew ?_ | refine blk_alloc ?_ _)); exact BK111.out) hb); have n1_ := Aside0.mk (below_step (by repeat (first | (with_reducible first | exact HB.out | apply below_alloc | apply pw_below_drewN | apply below_drew1 | refine below_set ?_ GE111.out) | exact HB.out)) hb); clear BK111; clear HB; have BK111 := n0_; have HB := n1_; clear n0_ n1_; (try clear hb); (try clear hb2); (try clear hk); (try clear hi); have hcz12_0 : w11.cell? ⟨gb111, 0, none⟩ = some (.string (⟨#[]⟩ : ByteArray)) := (blk_cell BK111.out 0).trans rfl; have hcz12_1 : w11.cell? ⟨gb111, 1, none⟩ = some (.bool false) := (blk_cell BK111.out 1).trans rfl; have hfz12_0 := blk_frozen BK111.out 0; have hfz12_1 := blk_frozen BK111.out 1))
          refine bodyPost_ret (results_cell_row rfl _ _ gb111 51 #[.string (a0.extract 0 ((ji5) : Int).toNat), .bool true] (0, 0) _ rfl (by (with_reducible repeat (first | refine blk_drewN ?_ _ | refine blk_drew ?_ | refine blk_alloc ?_ _)); refine blk_put (cs := #[.string (a0.extract 0 ((ji5) : Int).toNat), .bool false]) ?_ 1 _ rfl; (with_reducible repeat (first | refine blk_drewN ?_ _ | refine blk_drew ?_ | refine blk_alloc ?_ _)); refine blk_put (cs := #[.string (⟨#[]⟩ : ByteArray), .bool false]) ?_ 0 _ rfl; (with_reducible repeat (first | refine blk_drewN ?_ _ | refine blk_drew ?_ | refine blk_alloc ?_ _)); exact BK111.out) Try.underlying51 rfl (by kernel_rfl)) rfl ?_
          exact ⟨by first | rfl | (simp [errW_none, errW_some] <;> rfl) | (simp only [← hji5]; first | rfl | (simp [errW_none, errW_some] <;> rfl)) | (simp [*, errW_none, errW_some] <;> rfl), by repeat (first | (with_reducible first | exact HB.out | apply below_alloc | apply pw_below_drewN | apply below_drew1 | refine below_set ?_ GE111.out) | exact HB.out)⟩
        · rw [if_neg c9] at H
          have c9b0 : (t112.toList == a0.toList) = false := beq_eq_false_iff_ne.mpr c9
          have c9b1 : (t112.toList != a0.toList) = true := bne_iff_ne.mpr c9
          simp only [Option.some.injEq, Prod.mk.injEq] at H
          obtain ⟨rfl, rfl⟩ := H
          go_enter Try.func32, Try.ntmps32
          go_wp2_with (first | ((with_reducible refine gate_dst (N := 2) rfl ?_); refine box_event ?hg (N := 2) ?hd (cs := #[.string (⟨#[]⟩ : ByteArray), .bool false]) (t := 51) ?hr ?_; (case hd => rfl); (case hg => first | rfl | exact wanted_on rfl rfl rfl (by first | assumption | rfl | (simp [*]; done))); (case hr => first | (go_simp; done) | (go_simp; rfl)); intro gb111 hg w13 hbox hb; have n0_ := Aside0.mk (below_step (by repeat (first | (with_reducible first | exact HB.out | apply below_alloc | apply pw_below_drewN | apply below_drew1) | exact HB.out)) hb); have n1_ := Aside0.mk (hbox); have n2_ := Aside0.mk ((by rw [hg]; exact (below_size (by repeat (first | (with_reducible first | exact HB.out | apply below_alloc | apply pw_below_drewN | apply below_drew1) | exact HB.out))) : w.heap.size ≤ gb111)); have n3_ := Aside0.mk ((by rw [hg]; exact (below_size (by repeat (first | (with_reducible first | exact HB.out | apply below_alloc | apply pw_below_drewN | apply below_drew1) | exact HB.out))) : w.heap.size ≤ gb111)); clear HB; have HB := n0_; have BK111 := n1_; have GW111 := n2_; have GE111 := n3_; clear n0_ n1_ n2_ n3_; clear hb hbox hg) | ((with_reducible refine gate_callee (f := 16) rfl ?_); refine goesL_ (some 14) rfl rfl Try.func16 (by kernel_rfl) rfl #[.string (a0.extract 0 ((ji5) : Int).toNat)] rfl (by (try simp only [List.map_toArray, List.map_cons, List.map_nil]); first | done | (simp only [hji5]; rfl) | rfl | (simp only [List.length_drop, List.length_take]; rfl)) ?_; (with_reducible refine (earshotref05_Seal.calls k (a0.extract 0 ((ji5) : Int).toNat) t112 _ A8.out).mono ?_); rintro e w14 ⟨rfl, hb⟩; refine ⟨_, rfl, ?_⟩; have n0_ := Aside0.mk (blk_below (g := gb111) (o := .cells #[.string (⟨#[]⟩ : ByteArray), .bool false] 51 (0, 0)) (by (with_reducible repeat (first | refine blk_drewN ?_ _ | refine blk_drew ?_ | refine blk_alloc ?_ _)); exact BK111.out) hb); have n1_ := Aside0.mk (below_step (by repeat (first | (with_reducible first | exact HB.out | apply below_alloc | apply pw_below_drewN | apply below_drew1 | refine below_set ?_ GE111.out) | exact HB.out)) hb); clear BK111; clear HB; have BK111 := n0_; have HB := n1_; clear n0_ n1_; (try clear hb); (try clear hb2); (try clear hk); (try clear hi); have hcz15_0 : w14.cell? ⟨gb111, 0, none⟩ = some (.string (⟨#[]⟩ : ByteArray)) := (blk_cell BK111.out 0).trans rfl; have hcz15_1 : w14.cell? ⟨gb111, 1, none⟩ = some (.bool false) := (blk_cell BK111.out 1).trans rfl; have hfz15_0 := blk_frozen BK111.out 0; have hfz15_1 := blk_frozen BK111.out 1))
          refine bodyPost_ret (results_cell_row rfl _ _ gb111 51 #[.string (⟨#[]⟩ : ByteArray), .bool false] (0, 0) _ rfl (by (with_reducible repeat (first | refine blk_drewN ?_ _ | refine blk_drew ?_ | refine blk_alloc ?_ _)); refine blk_put (cs := #[.string (⟨#[]⟩ : ByteArray), .bool false]) ?_ 1 _ rfl; (with_reducible repeat (first | refine blk_drewN ?_ _ | refine blk_drew ?_ | refine blk_alloc ?_ _)); refine blk_put (cs := #[.string (⟨#[]⟩ : ByteArray), .bool false]) ?_ 0 _ rfl; (with_reducible repeat (first | refine blk_drewN ?_ _ | refine blk_drew ?_ | refine blk_alloc ?_ _)); exact BK111.out) Try.underlying51 rfl (by kernel_rfl)) rfl ?_
          exact ⟨by first | rfl | (simp [errW_none, errW_some] <;> rfl) | (simp only [← hji5]; first | rfl | (simp [errW_none, errW_some] <;> rfl)) | (simp [*, errW_none, errW_some] <;> rfl), by repeat (first | (with_reducible first | exact HB.out | apply below_alloc | apply pw_below_drewN | apply below_drew1 | refine below_set ?_ GE111.out) | exact HB.out)⟩
      · rw [if_neg c7] at H
        exact absurd H (by simp)
    · rw [if_neg c6] at H
      exact absurd H (by simp)

/-! ### earshotlaw05_opens: function 19 -/
def earshotlaw05_opens.f (k : Nat) (a0 : ByteArray) : Option (Bool) := (crc_Open.f a0).bind fun bt113 => ((earshotref05_Open.f k a0).bind fun bt115 => (if bt113.1.toList = bt115.1.toList then (some (bt113.2 == bt115.2)) else (some false)))
theorem earshotlaw05_opens.mono : ∀ a0 k, LeO (earshotlaw05_opens.f k a0) (earshotlaw05_opens.f (k + 1) a0) := by
  intro a0 k
  unfold earshotlaw05_opens.f
  repeat' first
      | (with_reducible exact earshotref05_Open.mono _ _)
      | (with_reducible exact LeO.refl _)
      | (with_reducible exact LeO.none _)
      | (with_reducible refine LeO.ite ?_ ?_)
      | (with_reducible refine LeO.bind ?_ (fun _ => ?_))
      | exact earshotref05_Open.mono _ _
      | exact LeO.none _
      | refine LeO.ite ?_ ?_
      | refine LeO.bind ?_ (fun _ => ?_)
set_option maxHeartbeats 8000000 in
set_option maxRecDepth 100000 in
theorem earshotlaw05_opens.calls (k : Nat) (a0 : ByteArray) (r : Bool) (w : World) (h : earshotlaw05_opens.f k a0 = some r) :
    Calls Try.prog 19 #[.string a0] w fun e w' => e = .returned (.bool r) ∧ Below w.heap.size w w' := by
  have hu51 := Try.underlying51
  have HB := Aside0.mk (Below.refl w.heap.size w)
  have H : ((crc_Open.f a0).bind fun bt113 => ((earshotref05_Open.f k a0).bind fun bt115 => (if bt113.1.toList = bt115.1.toList then (some (bt113.2 == bt115.2)) else (some false)))) = some r := h
  clear h
  replace H := Option.bind_eq_some_iff.mp H
  obtain ⟨⟨t113, t114⟩, A20, H⟩ := H
  replace H : ((earshotref05_Open.f k a0).bind fun bt115 => (if t113.toList = bt115.1.toList then (some (t114 == bt115.2)) else (some false))) = some r := H
  have A2 := Aside0.mk A20
  clear A20
  replace H := Option.bind_eq_some_iff.mp H
  obtain ⟨⟨t115, t116⟩, A30, H⟩ := H
  replace H : (if t113.toList = t115.toList then (some (t114 == t116)) else (some false)) = some r := H
  have A3 := Aside0.mk A30
  clear A30
  by_cases c4 : t113.toList = t115.toList
  · rw [if_pos c4] at H
    have c4b0 : (t113.toList == t115.toList) = true := beq_iff_eq.mpr c4
    have c4b1 : (t113.toList != t115.toList) = false := bne_eq_false_iff_eq.mpr c4
    clear c4
    obtain rfl := Option.some.inj H
    go_enter Try.func19, Try.ntmps19
    go_wp2_with (first | ((with_reducible refine gate_callee (f := 20) rfl ?_); refine goesL_ (some 8) rfl rfl Try.func20 (by kernel_rfl) rfl #[.string a0] rfl (by (try simp only [List.map_toArray, List.map_cons, List.map_nil]); first | done | rfl | (simp only [List.length_drop, List.length_take]; rfl)) ?_; (with_reducible refine (crc_Open.calls a0 t113 t114 _ A2.out).mono ?_); rintro e w5 ⟨rfl, hb⟩; refine ⟨_, rfl, ?_⟩; have n0_ := Aside0.mk (below_step (by repeat (first | (with_reducible first | exact HB.out | apply below_alloc | apply pw_below_drewN | apply below_drew1) | exact HB.out)) hb); clear HB; have HB := n0_; clear n0_; (try clear hb); (try clear hb2); (try clear hk); (try clear hi)) | ((with_reducible refine gate_callee (f := 32) rfl ?_); refine goesL_ (some 12) rfl rfl Try.func32 (by kernel_rfl) rfl #[.string a0] rfl (by (try simp only [List.map_toArray, List.map_cons, List.map_nil]); first | done | rfl | (simp only [List.length_drop, List.length_take]; rfl)) ?_; (with_reducible refine (earshotref05_Open.calls k a0 t115 t116 _ A3.out).mono ?_); rintro e w6 ⟨rfl, hb⟩; refine ⟨_, rfl, ?_⟩; have n0_ := Aside0.mk (below_step (by repeat (first | (with_reducible first | exact HB.out | apply below_alloc | apply pw_below_drewN | apply below_drew1) | exact HB.out)) hb); clear HB; have HB := n0_; clear n0_; (try clear hb); (try clear hb2); (try clear hk); (try clear hi)) | ((with_reducible refine gate_dst (N := 5) rfl ?_); refine box_event ?hg (N := 5) ?hd (cs := #[.string (⟨#[]⟩ : ByteArray), .bool false]) (t := 51) ?hr ?_; (case hd => rfl); (case hg => first | rfl | exact wanted_on rfl rfl rfl (by first | assumption | rfl | (simp [*]; done))); (case hr => first | (go_simp; done) | (go_simp; rfl)); intro gb117 hg w7 hbox hb; have n0_ := Aside0.mk (below_step (by repeat (first | (with_reducible first | exact HB.out | apply below_alloc | apply pw_below_drewN | apply below_drew1) | exact HB.out)) hb); have n1_ := Aside0.mk (hbox); have n2_ := Aside0.mk ((by rw [hg]; exact (below_size (by repeat (first | (with_reducible first | exact HB.out | apply below_alloc | apply pw_below_drewN | apply below_drew1) | exact HB.out))) : w.heap.size ≤ gb117)); have n3_ := Aside0.mk ((by rw [hg]; exact (below_size (by repeat (first | (with_reducible first | exact HB.out | apply below_alloc | apply pw_below_drewN | apply below_drew1) | exact HB.out))) : w.heap.size ≤ gb117)); clear HB; have HB := n0_; have BK117 := n1_; have GW117 := n2_; have GE117 := n3_; clear n0_ n1_ n2_ n3_; clear hb hbox hg; have hcz8_0 : w7.cell? ⟨gb117, 0, none⟩ = some (.string (⟨#[]⟩ : ByteArray)) := (blk_cell BK117.out 0).trans rfl; have hcz8_1 : w7.cell? ⟨gb117, 1, none⟩ = some (.bool false) := (blk_cell BK117.out 1).trans rfl; have hfz8_0 := blk_frozen BK117.out 0; have hfz8_1 := blk_frozen BK117.out 1))
    go_ret
    exact ⟨by first | rfl | (simp [errW_none, errW_some] <;> rfl) | (simp [*, errW_none, errW_some] <;> rfl), by repeat (first | (with_reducible first | exact HB.out | apply below_alloc | apply pw_below_drewN | apply below_drew1 | refine below_set ?_ GE117.out) | exact HB.out)⟩
  · rw [if_neg c4] at H
    have c4b0 : (t113.toList == t115.toList) = false := beq_eq_false_iff_ne.mpr c4
    have c4b1 : (t113.toList != t115.toList) = true := bne_iff_ne.mpr c4
    obtain rfl := Option.some.inj H
    go_enter Try.func19, Try.ntmps19
    go_wp2_with (first | ((with_reducible refine gate_callee (f := 20) rfl ?_); refine goesL_ (some 8) rfl rfl Try.func20 (by kernel_rfl) rfl #[.string a0] rfl (by (try simp only [List.map_toArray, List.map_cons, List.map_nil]); first | done | rfl | (simp only [List.length_drop, List.length_take]; rfl)) ?_; (with_reducible refine (crc_Open.calls a0 t113 t114 _ A2.out).mono ?_); rintro e w9 ⟨rfl, hb⟩; refine ⟨_, rfl, ?_⟩; have n0_ := Aside0.mk (below_step (by repeat (first | (with_reducible first | exact HB.out | apply below_alloc | apply pw_below_drewN | apply below_drew1) | exact HB.out)) hb); clear HB; have HB := n0_; clear n0_; (try clear hb); (try clear hb2); (try clear hk); (try clear hi)) | ((with_reducible refine gate_callee (f := 32) rfl ?_); refine goesL_ (some 12) rfl rfl Try.func32 (by kernel_rfl) rfl #[.string a0] rfl (by (try simp only [List.map_toArray, List.map_cons, List.map_nil]); first | done | rfl | (simp only [List.length_drop, List.length_take]; rfl)) ?_; (with_reducible refine (earshotref05_Open.calls k a0 t115 t116 _ A3.out).mono ?_); rintro e w10 ⟨rfl, hb⟩; refine ⟨_, rfl, ?_⟩; have n0_ := Aside0.mk (below_step (by repeat (first | (with_reducible first | exact HB.out | apply below_alloc | apply pw_below_drewN | apply below_drew1) | exact HB.out)) hb); clear HB; have HB := n0_; clear n0_; (try clear hb); (try clear hb2); (try clear hk); (try clear hi)) | ((with_reducible refine gate_dst (N := 5) rfl ?_); refine box_event ?hg (N := 5) ?hd (cs := #[.string (⟨#[]⟩ : ByteArray), .bool false]) (t := 51) ?hr ?_; (case hd => rfl); (case hg => first | rfl | exact wanted_on rfl rfl rfl (by first | assumption | rfl | (simp [*]; done))); (case hr => first | (go_simp; done) | (go_simp; rfl)); intro gb117 hg w11 hbox hb; have n0_ := Aside0.mk (below_step (by repeat (first | (with_reducible first | exact HB.out | apply below_alloc | apply pw_below_drewN | apply below_drew1) | exact HB.out)) hb); have n1_ := Aside0.mk (hbox); have n2_ := Aside0.mk ((by rw [hg]; exact (below_size (by repeat (first | (with_reducible first | exact HB.out | apply below_alloc | apply pw_below_drewN | apply below_drew1) | exact HB.out))) : w.heap.size ≤ gb117)); have n3_ := Aside0.mk ((by rw [hg]; exact (below_size (by repeat (first | (with_reducible first | exact HB.out | apply below_alloc | apply pw_below_drewN | apply below_drew1) | exact HB.out))) : w.heap.size ≤ gb117)); clear HB; have HB := n0_; have BK117 := n1_; have GW117 := n2_; have GE117 := n3_; clear n0_ n1_ n2_ n3_; clear hb hbox hg; have hcz12_0 : w11.cell? ⟨gb117, 0, none⟩ = some (.string (⟨#[]⟩ : ByteArray)) := (blk_cell BK117.out 0).trans rfl; have hcz12_1 : w11.cell? ⟨gb117, 1, none⟩ = some (.bool false) := (blk_cell BK117.out 1).trans rfl; have hfz12_0 := blk_frozen BK117.out 0; have hfz12_1 := blk_frozen BK117.out 1))
    go_ret
    exact ⟨by first | rfl | (simp [errW_none, errW_some] <;> rfl) | (simp [*, errW_none, errW_some] <;> rfl), by repeat (first | (with_reducible first | exact HB.out | apply below_alloc | apply pw_below_drewN | apply below_drew1 | refine below_set ?_ GE117.out) | exact HB.out)⟩

/-! ### earshotlaw05_CrcTells: function 5 -/
/-- A row of bytes that a string was turned into: the byte behind its capacity alone is marked. -/
def Frz (W : World) (g : Nat) (xs : List Int) : Prop :=
  ∃ cur : Array Value, W.heap[g]? = some (.cells cur 5 (cur.size, cur.size + 1)) ∧ xs.length ≤ cur.size ∧ ∀ j, j < xs.length → cur[j]? = some (.int .u8 (xs.getD j 0))
theorem frz_lt {W : World} {g : Nat} {xs : List Int} (h : Frz W g xs) : g < W.heap.size := by
  obtain ⟨cur, h1, _⟩ := h
  exact (Array.getElem?_eq_some_iff.1 h1).1
theorem frz_made (W : World) (s : ByteArray) : Frz (Lib.bytesWorld W 5 s) W.heap.size (bytesOf s) := by
  refine ⟨Lib.bytesCells W 5 s, Lib.bytesWorld_at_new W _ s, ?_, fun j hj => ?_⟩
  · rw [bytesOf_length]
    simp only [Lib.bytesCells, Array.size_append, Array.size_map]
    exact Nat.le_add_right _ _
  · rw [bytesOf_length] at hj
    have h1 := Lib.bytesWorld_cell W 5 s j hj
    simp only [World.cell?, Lib.bytesWorld_at_new] at h1
    have h2 : (bytesOf s).getD j 0 = ((s.data.toList.getD j 0).toNat : Int) := by
      have hl : j < s.data.toList.length := by rw [data_length]; exact hj
      simp only [bytesOf, List.getD_eq_getElem?_getD, List.getElem?_map, List.getElem?_eq_getElem hl, Option.map_some, Option.getD_some]
    rw [h2]
    simpa using h1
theorem frz_cell {W : World} {g : Nat} {xs : List Int} (h : Frz W g xs) (j : Nat) (hj : j < xs.length) : W.cell? ⟨g, j, none⟩ = some (.int .u8 (xs.getD j 0)) ∧ W.frozen? ⟨g, j, none⟩ = false := by
  obtain ⟨cur, h1, h2, h3⟩ := h
  constructor
  · simp [World.cell?, h1, h3 j hj]
  · simp [World.frozen?, h1]; omega
theorem frz_set {W : World} {g : Nat} {xs : List Int} (h : Frz W g xs) (i : Nat) (v : Int) : Frz (W.setCell ⟨g, i, none⟩ (.int .u8 v)) g (xs.set i v) := by
  obtain ⟨cur, h1, h2, h3⟩ := h
  refine ⟨cur.setIfInBounds i (.int .u8 v), ?_, by simpa using h2, fun j hj => ?_⟩
  · have hlt := (Array.getElem?_eq_some_iff.1 h1).1
    have he := (Array.getElem?_eq_some_iff.1 h1).2
    simp only [World.setCell, Array.getElem?_modify, if_pos, h1, Option.map_some]
    simp
  · rw [List.length_set] at hj
    have h4 := h3 j hj
    have hlt := (Array.getElem?_eq_some_iff.1 h4).1
    by_cases hij : i = j
    · subst hij
      rw [Array.getElem?_setIfInBounds_self_of_lt hlt, List.getD_eq_getElem?_getD, List.getElem?_set_self hj]
      rfl
    · rw [Array.getElem?_setIfInBounds_ne hij, h4, List.getD_eq_getElem?_getD, List.getD_eq_getElem?_getD, List.getElem?_set_ne hij]
theorem frz_below {W W' : World} {g : Nat} {xs : List Int} (h : Frz W g xs) (hb : Below W.heap.size W W') : Frz W' g xs := by
  have hlt := frz_lt h
  obtain ⟨cur, h1, h2, h3⟩ := h
  exact ⟨cur, by rw [hb.block g hlt]; exact h1, h2, h3⟩
theorem frz_reads {W : World} {g : Nat} {xs : List Int} (h : Frz W g xs) (hl : xs.length ≤ 1000000) : ReadsInt W .u8 (some ⟨g, 0, none⟩) xs.length xs := by
  refine ⟨rfl, by omega, fun _ => ⟨_, rfl, fun j hj => ?_⟩⟩
  rw [add_plain]
  exact (frz_cell h j hj).1
theorem below_bytes {w W : World} (h : Below w.heap.size w W) (s : ByteArray) : Below w.heap.size w (Lib.bytesWorld W 5 s) :=
  ⟨h.os, h.tape, h.output, by rw [Lib.bytesWorld_size]; exact Nat.le_succ_of_le h.size, fun k hk => (Lib.bytesWorld_at_old W _ s k (Nat.lt_of_lt_of_le hk h.size)).trans (h.block k hk)⟩
theorem frz_alloc {W : World} {g : Nat} {xs : List Int} (h : Frz W g xs) (o : Obj) : Frz (W.alloc o) g xs := by
  have hlt := frz_lt h
  obtain ⟨cur, h1, h2, h3⟩ := h
  exact ⟨cur, by rw [Below.heap_alloc _ _ _ hlt]; exact h1, h2, h3⟩
theorem frz_drewN {W : World} {g : Nat} {xs : List Int} (h : Frz W g xs) (n : Nat) : Frz (W.drewN n) g xs := h
theorem crc_str2 (W : World) (t g : Nat) (s : ByteArray) (hg : g = W.heap.size) : Kd.string.C (W.alloc (.cells #[.string s] t)) (some ⟨g, 0, none⟩) [s].length [s] := by
  subst hg
  exact crc_str1 W t s
theorem setCell_size (W : World) (a : Addr) (v : Value) : W.heap.size = (W.setCell a v).heap.size := by simp [World.setCell]
def tellI (n q : Int) : Int := Int.tmod (wrap64 (Int.tmod q n + n)) n
def earshotlaw05_CrcTells.f (k : Nat) (a0 a1 : ByteArray) (a2_0 a2_1 : Int) : Option (Bool) :=
  (earshotlaw05_awake.f).bind fun up => (earshotlaw05_short.f a0).bind fun s => (earshotref05_Seal.f k s).bind fun g => (crc_Sum.f [s]).bind fun t1 => (earshotref05_Sum.f k s).bind fun t2 =>
  (crc_Seal.f s).bind fun t3 => (earshotlaw05_short.f a1).bind fun u => (earshotlaw05_opens.f k u).bind fun o1 => (earshotlaw05_opens.f k (strOfNums ((bytesOf g).set (tellI (g.size : Int) a2_0).toNat (a2_1 % 256)))).bind fun o2 =>
  if up = true ∧ t1 = t2 ∧ t3 = g ∧ o1 = true ∧ o2 = true ∧ 0 < g.size ∧ g.size ≤ 1000 ∧ 0 ≤ tellI (g.size : Int) a2_0 ∧ tellI (g.size : Int) a2_0 < (g.size : Int) then some true else none
set_option maxHeartbeats 8000000 in
theorem earshotlaw05_CrcTells.calls (k : Nat) (a0 a1 : ByteArray) (a2_0 a2_1 : Int) (r : Bool) (w : World) (h : earshotlaw05_CrcTells.f k a0 a1 a2_0 a2_1 = some r) :
    Calls Try.prog 5 #[.string a0, .string a1, .agg #[.int .i64 a2_0, .int .i64 a2_1]] w fun e w' => e = .returned (.bool r) ∧ Below w.heap.size w w' := by
  unfold earshotlaw05_CrcTells.f at h
  replace h := Option.bind_eq_some_iff.mp h
  obtain ⟨up, H1, h⟩ := h
  replace h := Option.bind_eq_some_iff.mp h
  obtain ⟨s, H2, h⟩ := h
  replace h := Option.bind_eq_some_iff.mp h
  obtain ⟨g, H3, h⟩ := h
  replace h := Option.bind_eq_some_iff.mp h
  obtain ⟨t1, H4, h⟩ := h
  replace h := Option.bind_eq_some_iff.mp h
  obtain ⟨t2, H5, h⟩ := h
  replace h := Option.bind_eq_some_iff.mp h
  obtain ⟨t3, H6, h⟩ := h
  replace h := Option.bind_eq_some_iff.mp h
  obtain ⟨u, H7, h⟩ := h
  replace h := Option.bind_eq_some_iff.mp h
  obtain ⟨o1, H8, h⟩ := h
  replace h := Option.bind_eq_some_iff.mp h
  obtain ⟨o2, H9, h⟩ := h
  split at h
  case isFalse => cases h
  rename_i hall
  obtain ⟨rfl, rfl, rfl, rfl, rfl, g0, g1, i0, i1⟩ := hall
  obtain rfl := Option.some.inj h
  clear h
  obtain ⟨i, hi⟩ : ∃ i, tellI (t3.size : Int) a2_0 = i := ⟨_, rfl⟩
  rw [hi] at i0 i1 H9
  have hiw : Int.tmod (IntKind.i64.wrap (Int.tmod a2_0 (t3.size : Int) + (t3.size : Int))) (t3.size : Int) = i := by rw [i64_w]; exact hi
  have hiv : Int.tmod (wrap64 (Int.tmod a2_0 (t3.size : Int) + (t3.size : Int))) (t3.size : Int) = i := hi
  have N1 := Aside0.mk H1
  have N2 := Aside0.mk H2
  have N3 := Aside0.mk H3
  have N4 := Aside0.mk H4
  have N5 := Aside0.mk H5
  have N6 := Aside0.mk H6
  have N7 := Aside0.mk H7
  have N8 := Aside0.mk H8
  have N9 := Aside0.mk H9
  clear H1 H2 H3 H4 H5 H6 H7 H8 H9 hi
  have hn0 : ((t3.size : Int) == 0) = false := beq_eq_false_iff_ne.mpr (by omega)
  have hu22 := Try.underlying22
  obtain ⟨j, rfl⟩ := Int.eq_ofNat_of_zero_le i0
  have hj : j < t3.size := by omega
  rw [Int.toNat_natCast] at N9
  obtain ⟨xs, hxs⟩ : ∃ xs, (bytesOf t3).set j (a2_1 % 256) = xs := ⟨_, rfl⟩
  have hxl : xs.length = t3.size := by rw [← hxs, List.length_set, bytesOf_length]
  rw [hxs] at N9
  have HX := Aside0.mk hxs
  clear hxs
  go_enter Try.func5, Try.ntmps5
  go_wp2_with (first
    | ((with_reducible refine gate_dst (N := 5) rfl ?_); refine box_event ?hg (N := 5) ?hd (cs := #[.int .i64 a2_0, .int .i64 a2_1]) (t := 22) ?hr ?_; (case hd => rfl); (case hg => first | rfl | exact wanted_on rfl rfl rfl (by first | assumption | rfl | (simp [*]; done))); (case hr => first | (go_simp; done) | (go_simp; rfl)); intro gb hgb wb hbox hb; subst hgb; have BK := Aside0.mk hbox; have HB := Aside0.mk hb; clear hbox hb)
    | (go_at_call 13; (with_reducible refine (earshotlaw05_awake.calls true _ N1.out).mono ?_); rintro e w2 ⟨rfl, hb⟩; have BK2 := Aside0.mk (blk_below BK.out hb); have HB2 := Aside0.mk (below_step HB.out hb); clear hb)
    | (go_at_call 14; (with_reducible refine (earshotlaw05_short.calls a0 s _ N2.out).mono ?_); rintro e w' ⟨rfl, ⟨nd, rfl⟩⟩)
    | (go_at_call 15; refine (crc_Sum.calls _ _ [s] t1 _ (crc_str2 _ _ _ _ (setCell_size _ _ _)) (Nat.le_refl _) N4.out).mono ?_; rintro e w5 ⟨rfl, hb⟩; have HB5 := Aside0.mk (below_step (below_alloc (below_set (below_bytes HB3.out t3) HB3.out.size) _) hb); have HF5 : Aside0 (Frz w5 w3.heap.size xs) := ⟨by have z := frz_below (frz_alloc (frz_set HF.out j (a2_1 % 256)) _) hb; rwa [HX.out] at z⟩; clear hb)
    | (go_at_call 17; (with_reducible refine (earshotref05_Sum.calls k s t1 _ N5.out).mono ?_); rintro e w' ⟨rfl, ⟨nd2, rfl⟩⟩)
    | (go_at_call 18; (with_reducible refine (crc_Seal.calls s t3 _ N6.out).mono ?_); rintro e w6 ⟨rfl, hb⟩; have HB6 := Aside0.mk (below_step (pw_below_drewN HB5.out nd2) hb); have HF6 := Aside0.mk (frz_below (frz_drewN HF5.out nd2) hb); clear hb)
    | (go_at_call 16; (with_reducible refine (earshotref05_Seal.calls k s t3 _ N3.out).mono ?_); rintro e w7 ⟨rfl, hb⟩; have HB7 := Aside0.mk (below_step HB6.out hb); have HF7 := Aside0.mk (frz_below HF6.out hb); clear hb)
    | (go_at_call 14; (with_reducible refine (earshotlaw05_short.calls a1 u _ N7.out).mono ?_); have hwait := HB7; clear hwait; rintro e w' ⟨rfl, ⟨nd3, rfl⟩⟩)
    | (go_at_call 19; (with_reducible refine (earshotlaw05_opens.calls k u true _ N8.out).mono ?_); have hnd3 := nd3; rintro e w8 ⟨rfl, hb⟩; have HB8 := Aside0.mk (below_step (pw_below_drewN HB7.out nd3) hb); have HF8 := Aside0.mk (frz_below (frz_drewN HF7.out nd3) hb); clear hb hnd3; have hcv2 : ∀ c, (convert 28 9 (.slice (some ⟨w3.heap.size, 0, none⟩) t3.size c)).run Try.prog w8 = .ok (.string (strOfNums xs)) w8 := fun c => by have z := string_of_reads (P := Try.prog) (c := c) Try.underlying28 Try.underlying5 Try.underlying9 (frz_reads HF8.out (by rw [hxl]; omega)); rwa [hxl] at z)
    | (go_at_call 19; (with_reducible refine (earshotlaw05_opens.calls k (strOfNums xs) true _ N9.out).mono ?_); rintro e w9 ⟨rfl, hb⟩; have HB9 := Aside0.mk (below_step HB8.out hb); clear hb)
    | (go_at_call 16; (with_reducible refine (earshotref05_Seal.calls k s t3 _ N3.out).mono ?_); rintro e w3 ⟨rfl, hb⟩; have HB3 := Aside0.mk (below_step (pw_below_drewN HB2.out nd) hb); have BK3 := Aside0.mk (blk_below (blk_drewN BK2.out nd) hb); clear hb; have hlt : w.heap.size < w3.heap.size := (Array.getElem?_eq_some_iff.1 BK3.out).1; have hcv := Lib.run_convert_string_bytes (P := Try.prog) w3 9 28 5 t3 Try.underlying9 Try.underlying28 Try.underlying5; have hbx0 : (Lib.bytesWorld w3 5 t3).cell? ⟨w.heap.size, 0, none⟩ = some (.int .i64 a2_0) := (Lib.bytesWorld_old w3 _ t3 _ hlt).trans ((blk_cell BK3.out 0).trans rfl); have hbx1 : (Lib.bytesWorld w3 5 t3).cell? ⟨w.heap.size, 1, none⟩ = some (.int .i64 a2_1) := (Lib.bytesWorld_old w3 _ t3 _ hlt).trans ((blk_cell BK3.out 1).trans rfl); have HF := Aside0.mk (frz_made w3 t3); have hfc := frz_cell HF.out j (by rw [bytesOf_length]; exact hj); have hfc1 := hfc.1; have hfc2 := hfc.2; clear hfc hlt))
  go_ret
  exact ⟨rfl, HB9.out⟩

/-- THE ONE PURE STATEMENT of earshotlaw05_CrcTells: yours. -/
def earshotlaw05_CrcTells.Pure : Prop := ∀ (a0 : ByteArray) (a1 : ByteArray) (a2_0 : Int) (a2_1 : Int), a0.size ≤ 140737488351232 → a1.size ≤ 140737488351232 → (Lit.int .i64 a2_0).wf = true → (Lit.int .i64 a2_1).wf = true → ∃ k, earshotlaw05_CrcTells.f k a0 a1 a2_0 a2_1 = some true
theorem earshotlaw05_CrcTells.walk (P : earshotlaw05_CrcTells.Pure) (a0 : ByteArray) (a1 : ByteArray) (a2_0 : Int) (a2_1 : Int) (w : World) (w0 : a0.size ≤ 140737488351232) (w1 : a1.size ≤ 140737488351232) (w2_0 : (Lit.int .i64 a2_0).wf = true) (w2_1 : (Lit.int .i64 a2_1).wf = true) :
    Calls Try.prog 5 #[.string a0, .string a1, .agg #[.int .i64 a2_0, .int .i64 a2_1]] w fun e w' => e = .returned (.bool true) ∧ Below w.heap.size w w' := by
  obtain ⟨k, h⟩ := P a0 a1 a2_0 a2_1 w0 w1 w2_0 w2_1
  refine (earshotlaw05_CrcTells.calls k a0 a1 a2_0 a2_1 true w h).mono ?_
  rintro e w' ⟨rfl, hd⟩
  exact ⟨rfl, hd⟩

end Go.Proofs.Yteihjdpbahfnnaa.PCrcTells
