-- Written by a program of this work (wip/tools) for this claim; Lean checks it.
import Derived.Test.YteihjdpbahfnnaaPCrcBurstx0
namespace Go.Proofs.Yteihjdpbahfnnaa.PCrcBurst
open Go.RowKit Go.Proofs.YteihjdpbahfnnaaW.PrintWords Go.Proofs.YteihjdpbahfnnaaW.PrintLast Go.Proofs.YteihjdpbahfnnaaW.PrintMore
attribute [local go_sem] max2_int min2_int max_two min_two max_three min_three max_four min_four   -- for this text's walks alone
set_option linter.unusedVariables false
set_option linter.unusedSimpArgs false

-- NOT PRINTED: function 30 (crc_Sum_1)

/-! ### crc_Sum: function 15 -/
def crcStep (r : Int) : Int := Go.bits .xor .u32 (r / 2) ((3988292384 * (Go.bits .and .u32 r 1)) % 4294967296)
def crcReps : Nat → Int → Int
  | 0, r => r
  | n + 1, r => crcReps n (crcStep r)
def crcByte (r b : Int) : Int := crcReps 8 (Go.bits .xor .u32 r (b % 4294967296))
def crcFrom : Nat → ByteArray → Int → Int → Int
  | 0, _, _, r => r
  | n + 1, s, i, r => crcFrom n s (i + 1) (crcByte r (bt s i))
def crcAll : List ByteArray → Int → Int
  | [], r => r
  | s :: l, r => crcAll l (crcFrom s.size s 0 r)
theorem grown_set (W : World) (b : Nat) (v : Value) : W.grownBy (W.setCell ⟨b, 0, none⟩ v) (some b) :=
  ⟨rfl, rfl, rfl, by simp [World.setCell], fun k _ hk => Below.heap_setCell _ _ _ k (fun e => hk (by rw [e]))⟩
theorem grown_trans {a w w' : World} {row : Option Nat} (h : a.grownBy w row) (k : w.grownBy w' row) : a.grownBy w' row := World.grownBy.trans h k
theorem crc_next (g : Nat) (r b : Int) (w : World) (hg : w.heap[g]? = some (.cells #[.int .u32 r] 25 (0, 0))) :
    Calls Try.prog 30 #[.int .u8 b, .pointer (some ⟨g, 0, none⟩)] w fun e w' => e = .returned (.tuple #[]) ∧ Aside0 (w'.heap[g]? = some (.cells #[.int .u32 (crcByte r b)] 25 (0, 0))) ∧ Aside0 (w.grownBy w' (some g)) := by
  have hc := cell_of_one hg
  have hf := free_of_one hg
  have HG := Aside0.mk hg
  clear hg
  go_enter Try.func30, Try.ntmps30
  go_wp2
  clear hc hf
  go_loopw [8] (fun v wr => ∃ (n : Nat) (x : Int), n ≤ 8 ∧ v = .int .i64 (n : Int) ∧ Aside0 (wr.heap[g]? = some (.cells #[.int .u32 x] 25 (0, 0))) ∧ Aside0 (w.grownBy wr (some g)) ∧ Aside0 (crcReps (8 - n) x = crcByte r b)) (fun v _ => 8 - (intOf v).toNat)
  case atStart => exact ⟨0, _, by omega, rfl, ⟨one_setCell HG.out⟩, ⟨grown_set _ _ _⟩, ⟨rfl⟩⟩
  case round =>
    obtain ⟨n, x, hn, rfl, HX, HW, HE⟩ := hrel
    have hc := cell_of_one HX.out
    have hf := free_of_one HX.out
    by_cases hlt : n < 8
    · go_wp2
      go_roundw
      case rel => exact ⟨n + 1, _, by omega, by go_num, ⟨one_setCell HX.out⟩, ⟨grown_trans HW.out (grown_set _ _ _)⟩, ⟨by rw [← HE.out, show 8 - n = (8 - (n + 1)) + 1 by omega]; rfl⟩⟩
      case measure => simp [intOf]; omega
    · obtain rfl : n = 8 := by omega
      go_wp2
      go_end0
      exact ⟨rfl, ⟨by have := HE.out; simp only [crcReps, Nat.sub_self] at this; rw [← this]; exact HX.out⟩, HW⟩
def crcOk (l0 : List ByteArray) : Bool := decide (l0.length ≤ 4611686018427387904) && l0.all fun s => decide (s.size ≤ 4611686018427387904)
def crc_Sum.f (l0 : List ByteArray) : Option (Int) := if crcOk l0 = true then some (Go.bits .xor .u32 4294967295 (crcAll l0 4294967295)) else none
theorem crc_drop (l : List ByteArray) (i : Nat) (h : i < l.length) (r : Int) : crcAll (l.drop i) r = crcAll (l.drop (i + 1)) (crcFrom (l.getD i ByteArray.empty).size (l.getD i ByteArray.empty) 0 r) := by
  rw [List.drop_eq_getElem_cons h, crcAll, List.getD_eq_getElem?_getD, List.getElem?_eq_getElem h]
  rfl
set_option maxHeartbeats 8000000 in
theorem crc_Sum.calls (A0 : Option Addr) (c0 : Nat) (l0 : List ByteArray) (r : Int) (w : World) (hr0 : Kd.C Kd.string w A0 l0.length l0) (hc0 : l0.length ≤ c0) (h : crc_Sum.f l0 = some r) :
    Calls Try.prog 15 #[.slice A0 l0.length c0] w fun e w' => e = .returned (.int .u32 r) ∧ Below w.heap.size w w' := by
  have hok : crcOk l0 = true := by
    unfold crc_Sum.f at h
    split at h
    · assumption
    · cases h
  have HR : Aside0 (Go.bits .xor .u32 4294967295 (crcAll l0 4294967295) = r) := by
    unfold crc_Sum.f at h
    rw [if_pos hok] at h
    exact ⟨Option.some.inj h⟩
  clear h
  simp only [crcOk, Bool.and_eq_true, decide_eq_true_eq, List.all_eq_true] at hok
  obtain ⟨hl, hs⟩ := hok
  have HS := Aside0.mk hs
  have HC := Aside0.mk hr0
  have HC0 := Aside0.mk hc0
  clear hs hr0 hc0
  have hmf : ∀ (fn : Fn) (first cap : Array Value) (w : World), (Instr.makeFunc fn first cap).run Try.prog w = .ok (.func fn first cap) w := fun _ _ _ _ => rfl
  go_enter Try.func15, Try.ntmps15
  go_wp2
  go_loopw [11] (fun v wr => ∃ (n : Nat) (x : Int), n ≤ l0.length ∧ v = .int .i64 (n : Int) ∧ Aside0 (wr.heap[w.heap.size]? = some (.cells #[.int .u32 x] 25 (0, 0))) ∧ Aside0 (Below w.heap.size w wr) ∧ Aside0 (crcAll (l0.drop n) x = crcAll l0 4294967295)) (fun v _ => l0.length - (intOf v).toNat)
  case atStart => exact ⟨0, 4294967295, by omega, rfl, ⟨by simpa using heap_alloc_new w _⟩, ⟨below_alloc (Below.refl _ _) _⟩, ⟨rfl⟩⟩
  case round =>
    obtain ⟨n, x, hn, rfl, HX, HW, HE⟩ := hrel
    have hc := cell_of_one HX.out
    have hf := free_of_one HX.out
    by_cases hlt : n < l0.length
    · obtain ⟨ad, ha, hcell⟩ := Kd.at_string (Kd.C_below HC.out HW.out) (n : Int) (by omega) (by omega)
      subst ha
      rw [Int.toNat_natCast] at hcell
      obtain ⟨s, hsv⟩ : ∃ s, s = rdOf ByteArray.empty l0 (n : Int) := ⟨_, rfl⟩
      rw [← hsv] at hcell
      have HE2 : Aside0 (crcAll (l0.drop (n + 1)) (crcFrom s.size s 0 x) = crcAll l0 4294967295) := ⟨by rw [← HE.out, crc_drop l0 n hlt, hsv]; rfl⟩
      have hsz : s.size ≤ 4611686018427387904 := by
        refine HS.out s ?_
        rw [hsv]
        simp only [rdOf, Int.toNat_natCast, List.getD_eq_getElem?_getD, List.getElem?_eq_getElem hlt]
        exact List.getElem_mem _
      clear hsv
      go_wp2
      go_loopw [17] (fun v wr2 => ∃ (m : Nat) (y : Int), m ≤ s.size ∧ v = .int .i64 (m : Int) ∧ Aside0 (wr2.heap[w.heap.size]? = some (.cells #[.int .u32 y] 25 (0, 0))) ∧ Aside0 (Below w.heap.size w wr2) ∧ Aside0 (crcFrom (s.size - m) s (m : Int) y = crcFrom s.size s 0 x)) (fun v _ => s.size - (intOf v).toNat)
      case atStart => exact ⟨0, x, by omega, rfl, HX, HW, ⟨rfl⟩⟩
      case round =>
        clear hc hf hcell
        obtain ⟨m, y, hm, rfl, HY, HV, HF⟩ := hrel
        by_cases hlm : m < s.size
        · have hx := bt_at s (m : Int)
          go_wp2_with (go_at_call 30; refine (crc_next _ y _ _ HY.out).mono ?_; rintro e w' ⟨rfl, HN, HG⟩)
          refine ⟨⟨m + 1, _, by omega, by go_num, HN, ⟨Below.grown HV.out HG.out HV.out.size (fun k hk => by injection hk with hk; omega)⟩, ⟨?_⟩⟩, by simp [intOf]; omega⟩
          rw [← HF.out, show s.size - m = (s.size - (m + 1)) + 1 by omega, crcFrom, ← hx (by simpa using hlm)]
          rfl
        · obtain rfl : m = s.size := by omega
          have HF' : y = crcFrom s.size s 0 x := by have := HF.out; rwa [Nat.sub_self, crcFrom] at this
          subst HF'
          go_wp2
          go_roundw
          case rel => exact ⟨n + 1, _, by omega, by go_num, HY, HV, HE2⟩
          case measure => simp [intOf]; omega
    · obtain rfl : n = l0.length := by omega
      go_wp2
      go_ret
      refine ⟨?_, HW.out⟩
      show Ending.returned (.int .u32 (Go.bits .xor .u32 IntKind.u32.max x)) = .returned (.int .u32 r)
      rw [← HR.out, ← HE.out, List.drop_length, crcAll]
      rfl

/-! ### earshotlaw05_awake: function 13 -/
def earshotlaw05_awake.f  : Option (Bool) := (crc_Sum.f (([(⟨#[49, 50, 51, 52, 53]⟩ : ByteArray), (⟨#[54, 55, 56, 57]⟩ : ByteArray)] : List ByteArray))).bind fun t104 => (some (t104 == 3421780262))
set_option maxHeartbeats 8000000 in
set_option maxRecDepth 100000 in
theorem earshotlaw05_awake.calls  (r : Bool) (w : World) (h : earshotlaw05_awake.f  = some r) :
    Calls Try.prog 13 #[] w fun e w' => e = .returned (.bool r) ∧ Below w.heap.size w w' := by
  have HB := Aside0.mk (Below.refl w.heap.size w)
  have H : ((crc_Sum.f (([(⟨#[49, 50, 51, 52, 53]⟩ : ByteArray), (⟨#[54, 55, 56, 57]⟩ : ByteArray)] : List ByteArray))).bind fun t104 => (some (t104 == 3421780262))) = some r := h
  clear h
  obtain ⟨y101, hy101⟩ : ∃ y_ : List ByteArray, y_ = (([(⟨#[49, 50, 51, 52, 53]⟩ : ByteArray), (⟨#[54, 55, 56, 57]⟩ : ByteArray)] : List ByteArray)) := ⟨_, rfl⟩
  replace H : ((crc_Sum.f y101).bind fun t104 => (some (t104 == 3421780262))) = some r := by first | (rw [hy101]; with_reducible exact H) | (have H2_ := (Option.bind_some _ _).symm.trans H; rw [hy101]; with_reducible exact H2_) | (have H2_ := (Option.bind_some _ _).symm.trans H; with_reducible exact H2_) | with_reducible exact H | (rw [hy101]; exact H) | exact H
  have Ny101 := Aside0.mk hy101
  clear hy101
  replace H := Option.bind_eq_some_iff.mp H
  obtain ⟨t104, A10, H⟩ := H
  replace H : (some (t104 == 3421780262)) = some r := H
  have A1 := Aside0.mk A10
  clear A10
  obtain rfl := Option.some.inj H
  go_enter Try.func13, Try.ntmps13
  go_wp2_with (first | ((with_reducible refine gate_dst (N := 1) rfl ?_); refine Kd.R_lit Kd.string _ 9 ?hg (N := 1) ?hd (xs := ([(⟨#[49, 50, 51, 52, 53]⟩ : ByteArray), (⟨#[54, 55, 56, 57]⟩ : ByteArray)] : List ByteArray)) (inner := [.string (⟨#[49, 50, 51, 52, 53]⟩ : ByteArray), .string (⟨#[54, 55, 56, 57]⟩ : ByteArray)]) (ok := fun _ => True) (okp := fun _ => True) ?hr ?hp (fun _ hk => hk) trivial (Below.refl _ _) (Nat.le_refl _) (by simp) ?_; (case hd => rfl); (case hg => first | rfl | exact wanted_on rfl rfl rfl (by first | assumption | rfl | (simp [*]; done))); (case hr => first | (go_simp; done) | (go_simp; rfl)); (case hp => exact (Reps.one (show Kd.M Kd.string _ _ _ (⟨#[49, 50, 51, 52, 53]⟩ : ByteArray) [.string (⟨#[49, 50, 51, 52, 53]⟩ : ByteArray)] from rfl) (Reps.one (show Kd.M Kd.string _ _ _ (⟨#[54, 55, 56, 57]⟩ : ByteArray) [.string (⟨#[54, 55, 56, 57]⟩ : ByteArray)] from rfl) (Reps.none _ _)))); intro v102 w2 ho3 hb hg_ hnew_; clear hg_ hnew_; (first | rw [← Ny101.out] at ho3 | (simp only [Int.reduceToNat] at ho3; rw [← Ny101.out] at ho3)); have n0_ := Aside0.mk (Kd.R_lower ho3 (below_size (by repeat (first | (with_reducible first | exact HB.out | apply below_alloc | apply pw_below_drewN | apply below_drew1) | exact HB.out)))); have n1_ := Aside0.mk (below_step (by repeat (first | (with_reducible first | exact HB.out | apply below_alloc | apply pw_below_drewN | apply below_drew1) | exact HB.out)) hb); clear HB; have HO103 := n0_; have HB := n1_; clear n0_ n1_; clear hb ho3; obtain ⟨Ao4, co4, eo4⟩ := Kd.R_slice HO103.out; subst eo4) | ((with_reducible refine gate_callee (f := 15) rfl ?_); refine goesL_ (some 2) rfl rfl Try.func15 (by kernel_rfl) rfl #[.slice Ao4 y101.length co4] rfl (by (try simp only [List.map_toArray, List.map_cons, List.map_nil]); first | done | rfl | (simp only [List.length_drop, List.length_take]; rfl)) ?_; (with_reducible refine (crc_Sum.calls _ _ y101 t104 _ ?side1 ?side2 A1.out).mono ?_); (case side1 => repeat (first | exact (Kd.R_reads' HO103.out).2.2 | (with_reducible refine Kd.C_alloc ?_ _) | (with_reducible refine Kd.C_drewN ?_ _) | (with_reducible refine Kd.C_drew ?_))); (case side2 => exact (Kd.R_reads' HO103.out).2.1); rintro e w5 ⟨rfl, hb⟩; refine ⟨_, rfl, ?_⟩; have n0_ := Aside0.mk (Kd.R_below (by (with_reducible repeat (first | apply Kd.R_alloc | apply Kd.R_drewN | apply Kd.R_drew)); (first | exact HO103.out | exact Kd.R_mono HO103.out (fun _ _ => trivial) | exact Kd.R_mono HO103.out (fun _ hk => hk.1))) hb); have n1_ := Aside0.mk (below_step (by repeat (first | (with_reducible first | exact HB.out | apply below_alloc | apply pw_below_drewN | apply below_drew1) | exact HB.out)) hb); clear HO103; clear HB; have HO103 := n0_; have HB := n1_; clear n0_ n1_; (try clear hb); (try clear hb2); (try clear hk); (try clear hi)))
  go_ret
  exact ⟨by first | rfl | (simp [errW_none, errW_some] <;> rfl) | (simp [*, errW_none, errW_some] <;> rfl), by repeat (first | (with_reducible first | exact HB.out | apply below_alloc | apply pw_below_drewN | apply below_drew1) | exact HB.out)⟩

/-! ### earshotlaw05_short: function 14 -/
def earshotlaw05_short.f (a0 : ByteArray) : Option (ByteArray) := if (a0.size : Int) > 60 then (if 0 ≤ 60 then (if 60 ≤ (a0.size : Int) then (some (a0.extract 0 60)) else (none)) else (none)) else (some a0)
set_option maxHeartbeats 8000000 in
set_option maxRecDepth 100000 in
theorem earshotlaw05_short.calls (a0 : ByteArray) (r : ByteArray) (w : World) (h : earshotlaw05_short.f a0 = some r) :
    Calls Try.prog 14 #[.string a0] w fun e w' => e = .returned (.string r) ∧ Drawn0 w w' := by
  have H : (if (a0.size : Int) > 60 then (if 0 ≤ 60 then (if 60 ≤ (a0.size : Int) then (some (a0.extract 0 60)) else (none)) else (none)) else (some a0)) = some r := h
  clear h
  by_cases c2 : (a0.size : Int) > 60
  · rw [if_pos c2] at H
    have c2b0 : decide (60 < (a0.size : Int)) = true := decide_eq_true c2
    have c2b1 : decide (60 < a0.size) = true := decide_eq_true (by omega)
    clear c2
    by_cases c3 : 0 ≤ 60
    · rw [if_pos c3] at H
      have c3b0 := eq_true c3
      have c3b1 : decide (0 ≤ 60) = true := decide_eq_true c3
      clear c3
      by_cases c4 : 60 ≤ (a0.size : Int)
      · rw [if_pos c4] at H
        have c4b0 := eq_true c4
        have c4b1 : decide (60 ≤ (a0.size : Int)) = true := decide_eq_true c4
        clear c4
        obtain rfl := Option.some.inj H
        go_enter Try.func14, Try.ntmps14
        go_wp2
        go_ret
        exact ⟨by first | rfl | (simp; done) | (simp [*]; done), by repeat (first | exact Drawn0.refl _ | apply Drawn0.step)⟩
      · rw [if_neg c4] at H
        exact absurd H (by simp)
    · rw [if_neg c3] at H
      exact absurd H (by simp)
  · rw [if_neg c2] at H
    have c2b0 : decide (60 < (a0.size : Int)) = false := decide_eq_false c2
    have c2b1 : decide (60 < a0.size) = false := decide_eq_false (by omega)
    clear c2
    obtain rfl := Option.some.inj H
    go_enter Try.func14, Try.ntmps14
    go_wp2
    go_ret
    exact ⟨by first | rfl | (simp; done) | (simp [*]; done), by repeat (first | exact Drawn0.refl _ | apply Drawn0.step)⟩

/-! ### crc_Seal: function 18 -/
def crcSumOf (s : ByteArray) : Int := Go.bits .xor .u32 4294967295 (crcAll [s] 4294967295)
def crcLe : Nat → Int → List Int
  | 0, _ => []
  | k + 1, n => n % 256 :: crcLe k (n / 256)
def crc_Seal.f (a0 : ByteArray) : Option (ByteArray) := if a0.size ≤ 1000000 then some (strOfNums (bytesOf a0 ++ crcLe 4 (crcSumOf a0))) else none
theorem crc_made (W : World) (cap : Nat) (hc : cap ≤ 1000004) : (W.alloc (.cells (madeCells #[.int .u8 0] cap) 5)).ownsRow W.heap.size 5 1 (.slice (some ⟨W.heap.size, 0, none⟩) 0 cap) 0 (nums .u8 []) := by
  refine ⟨rfl, .inr ⟨W.heap.size, cap, _, rfl, Nat.le_refl _, by simpa using heap_alloc_new W _, Nat.zero_le _, by simp only [maxLen]; omega, by simp [size_madeCells], rfl⟩⟩
theorem crc_str1 (W : World) (t : Nat) (s : ByteArray) : Kd.string.C (W.alloc (.cells #[.string s] t)) (some ⟨W.heap.size, 0, none⟩) [s].length [s] :=
  Kd.C_of_reads (d := ByteArray.empty) (h1 := fun _ => rfl) ⟨rfl, by simp, fun _ => ⟨_, rfl, fun j hj => by
    obtain rfl : j = 0 := by simpa using hj
    rw [add_plain]; exact cell_of_one (heap_alloc_new W (.cells #[.string s] t))⟩⟩
theorem crc_info8 : (Try.prog.info? 5).map (fun i => (i.zero, i.size, i.bytes)) = some (some (.int .u8 0), 1, 1) := by kernel_rfl
theorem crc_make (c : Int) (h0 : 0 ≤ c) (hc : c ≤ 1000004) (W : World) :
    (Instr.makeSlice 28 (.int .i64 0) (.int .i64 c)).run Try.prog W = .ok (.slice (some ⟨W.heap.size, 0, none⟩) 0 c.toNat) (W.alloc (.cells (madeCells #[.int .u8 0] c.toNat) 5)) := by
  obtain ⟨i, hi, hzz⟩ := Option.map_eq_some_iff.1 crc_info8
  simp only [Prod.mk.injEq] at hzz
  obtain ⟨hz, hs, hb⟩ := hzz
  have := run_make (P := Try.prog) W 28 5 i (.int .u8 0) Try.underlying28 hi hz .i64 .i64 0 c (Int.le_refl _) h0 (by rw [hb]; omega) (by omega)
  rw [hs, Nat.mul_one] at this
  exact this
set_option maxHeartbeats 8000000 in
theorem crc_Seal.calls (a0 : ByteArray) (r : ByteArray) (w : World) (h : crc_Seal.f a0 = some r) :
    Calls Try.prog 18 #[.string a0] w fun e w' => e = .returned (.string r) ∧ Below w.heap.size w w' := by
  have hs : a0.size ≤ 1000000 := by
    unfold crc_Seal.f at h
    split at h
    · assumption
    · cases h
  have HR : Aside0 (strOfNums (bytesOf a0 ++ crcLe 4 (crcSumOf a0)) = r) := by
    unfold crc_Seal.f at h
    rw [if_pos hs] at h
    exact ⟨Option.some.inj h⟩
  clear h
  have hsum : crc_Sum.f [a0] = some (crcSumOf a0) := by
    unfold crc_Sum.f
    rw [if_pos (by simp [crcOk]; omega)]
    rfl
  have HSUM := Aside0.mk hsum
  clear hsum
  have hmk := fun W => crc_make ((a0.size : Int) + 4) (by omega) (by omega) W
  rw [show ((a0.size : Int) + 4).toNat = a0.size + 4 by omega] at hmk
  go_enter Try.func18, Try.ntmps18
  go_wp2_with (first
    | (at_builtin; refine print_append_str (w0 := w) w.heap.size rfl (.tmp 9) _ 28 9 5 rfl Try.underlying28 Try.underlying9 crc_info8 (.slice (some ⟨w.heap.size, 0, none⟩) 0 (a0.size + 4)) [] a0 rfl rfl (crc_made w _ (by omega)) (below_alloc (Below.refl _ _) _) (by simp) (by simp; omega) ?_; intro v1 w1 ho hb hg)
    | (go_at_call 15; refine (crc_Sum.calls _ _ [a0] _ _ (crc_str1 _ _ _) (Nat.le_refl _) HSUM.out).mono ?_; rintro e w2 ⟨rfl, hb2⟩))
  have HO := Aside0.mk (pw_own_below (ho.alloc _) hb2)
  have HB := Aside0.mk (below_then (below_alloc hb (.cells #[.string a0] 9)) (by have := hb.size; simp; omega) hb2)
  clear ho hb hg hb2 hmk
  rw [List.nil_append] at HO
  have HN : Aside0 (crcLe 0 (crcSumOf a0) = crcLe 0 (crcSumOf a0)) := ⟨rfl⟩
  go_loopw [3, 4, 15] (fun v3 v4 v15 wr => ∃ (m : Nat) (xs ys : List Int) (n : Int), m ≤ 4 ∧ v15 = .int .i64 (m : Int) ∧ v4 = .int .u32 n ∧ Aside0 (wr.ownsRow w.heap.size 5 1 v3 xs.length (nums .u8 xs)) ∧ Aside0 (Below w.heap.size w wr) ∧ Aside0 (xs ++ crcLe (4 - m) n = bytesOf a0 ++ crcLe 4 (crcSumOf a0)) ∧ Aside0 (xs.length = a0.size + m)) (fun _ _ v _ => 4 - (intOf v).toNat)
  case atStart => exact ⟨0, bytesOf a0, [], _, by omega, rfl, rfl, HO, HB, ⟨rfl⟩, ⟨by rw [bytesOf_length]; rfl⟩⟩
  case round =>
    clear HO HB HN
    obtain ⟨m, xs, ys, n, hm, rfl, rfl, HO, HB, HE, HL⟩ := hrel
    by_cases hlt : m < 4
    · go_wp2_with (at_builtin; refine print_append_num (w0 := w) w.heap.size rfl (.tmp 17) (.tmp 20) 28 5 .u8 1 rfl Try.underlying28 crc_info8 (by decide) _ xs (n % 256) rfl rfl HO.out HB.out HB.out.size (by rw [HL.out]; omega) ?_; intro v1 w1 ho hb hg hat; have HO2 := Aside0.mk ho; have HB2 := Aside0.mk hb; clear ho hb hg hat)
      refine ⟨⟨m + 1, xs ++ [n % 256], [], n / 256, by omega, by go_num, rfl, HO2, HB2, ⟨?_⟩, ⟨by rw [List.length_append, HL.out]; rfl⟩⟩, by simp [intOf]; omega⟩
      rw [← HE.out, show 4 - m = (4 - (m + 1)) + 1 by omega, crcLe, List.append_assoc]
      rfl
    · obtain rfl : m = 4 := by omega
      have hst := own_string (P := Try.prog) (src := 28) (dst := 9) Try.underlying28 Try.underlying5 Try.underlying9 HO.out
      go_wp2
      go_ret
      refine ⟨?_, HB.out⟩
      rw [← HR.out, ← HE.out]
      simp [crcLe]

/-! ### crc_Open: function 20 -/
def crc_Open.f (a0 : ByteArray) : Option (ByteArray × Bool) := if (a0.size : Int) < 4 then (some ((⟨#[]⟩ : ByteArray), false)) else (if 0 ≤ (wrap64 ((a0.size : Int) - 4)) then (if (wrap64 ((a0.size : Int) - 4)) ≤ (a0.size : Int) then ((crc_Seal.f (a0.extract 0 ((wrap64 ((a0.size : Int) - 4)) : Int).toNat)).bind fun t105 => (if t105.toList = a0.toList then (some (a0.extract 0 ((wrap64 ((a0.size : Int) - 4)) : Int).toNat, true)) else (some ((⟨#[]⟩ : ByteArray), false)))) else (none)) else (none))
set_option maxHeartbeats 8000000 in
set_option maxRecDepth 100000 in
theorem crc_Open.calls (a0 : ByteArray) (r1 : ByteArray) (r2 : Bool) (w : World) (h : crc_Open.f a0 = some (r1, r2)) :
    Calls Try.prog 20 #[.string a0] w fun e w' => e = .returned (.tuple #[.string r1, .bool r2]) ∧ Below w.heap.size w w' := by
  have HB := Aside0.mk (Below.refl w.heap.size w)
  have H : (if (a0.size : Int) < 4 then (some ((⟨#[]⟩ : ByteArray), false)) else (if 0 ≤ (wrap64 ((a0.size : Int) - 4)) then (if (wrap64 ((a0.size : Int) - 4)) ≤ (a0.size : Int) then ((crc_Seal.f (a0.extract 0 ((wrap64 ((a0.size : Int) - 4)) : Int).toNat)).bind fun t105 => (if t105.toList = a0.toList then (some (a0.extract 0 ((wrap64 ((a0.size : Int) - 4)) : Int).toNat, true)) else (some ((⟨#[]⟩ : ByteArray), false)))) else (none)) else (none))) = some (r1, r2) := h
  clear h
  by_cases c2 : (a0.size : Int) < 4
  · rw [if_pos c2] at H
    have c2b0 : decide ((a0.size : Int) < 4) = true := decide_eq_true c2
    have c2b1 : decide (a0.size < 4) = true := decide_eq_true (by omega)
    clear c2
    simp only [Option.some.injEq, Prod.mk.injEq] at H
    obtain ⟨rfl, rfl⟩ := H
    go_enter Try.func20, Try.ntmps20
    go_wp2
    go_ret2
    exact ⟨by first | rfl | (simp [errW_none, errW_some] <;> rfl) | (simp [*, errW_none, errW_some] <;> rfl), by repeat (first | (with_reducible first | exact HB.out | apply below_alloc | apply pw_below_drewN | apply below_drew1) | exact HB.out)⟩
  · rw [if_neg c2] at H
    have c2b0 : decide ((a0.size : Int) < 4) = false := decide_eq_false c2
    have c2b1 : decide (a0.size < 4) = false := decide_eq_false (by omega)
    clear c2
    obtain ⟨ji3, hji3⟩ : ∃ j_ : Int, (wrap64 ((a0.size : Int) - 4)) = j_ := ⟨_, rfl⟩
    replace H : (if 0 ≤ (ji3) then (if (ji3) ≤ (a0.size : Int) then ((crc_Seal.f (a0.extract 0 ((ji3) : Int).toNat)).bind fun t105 => (if t105.toList = a0.toList then (some (a0.extract 0 ((ji3) : Int).toNat, true)) else (some ((⟨#[]⟩ : ByteArray), false)))) else (none)) else (none)) = some (r1, r2) := by first | (rw [hji3] at H; exact H) | (simp only [hji3] at H ⊢; exact H)
    have hji3w : (IntKind.i64.wrap ((a0.size : Int) - 4)) = ji3 := (i64_w _).trans hji3
    by_cases c4 : 0 ≤ (ji3)
    · rw [if_pos c4] at H
      have c4b0 := eq_true c4
      have c4b1 : decide (0 ≤ (ji3)) = true := decide_eq_true c4
      clear c4
      by_cases c5 : (ji3) ≤ (a0.size : Int)
      · rw [if_pos c5] at H
        have c5b0 := eq_true c5
        have c5b1 : decide ((ji3) ≤ (a0.size : Int)) = true := decide_eq_true c5
        clear c5
        replace H := Option.bind_eq_some_iff.mp H
        obtain ⟨t105, A60, H⟩ := H
        replace H : (if t105.toList = a0.toList then (some (a0.extract 0 ((ji3) : Int).toNat, true)) else (some ((⟨#[]⟩ : ByteArray), false))) = some (r1, r2) := H
        have A6 := Aside0.mk A60
        clear A60
        by_cases c7 : t105.toList = a0.toList
        · rw [if_pos c7] at H
          have c7b0 : (t105.toList == a0.toList) = true := beq_iff_eq.mpr c7
          have c7b1 : (t105.toList != a0.toList) = false := bne_eq_false_iff_eq.mpr c7
          clear c7
          simp only [Option.some.injEq, Prod.mk.injEq] at H
          obtain ⟨rfl, rfl⟩ := H
          go_enter Try.func20, Try.ntmps20
          go_wp2_with (first | ((with_reducible refine gate_callee (f := 18) rfl ?_); refine goesL_ (some 14) rfl rfl Try.func18 (by kernel_rfl) rfl #[.string (a0.extract 0 ((ji3) : Int).toNat)] rfl (by (try simp only [List.map_toArray, List.map_cons, List.map_nil]); first | done | (simp only [hji3]; rfl) | rfl | (simp only [List.length_drop, List.length_take]; rfl)) ?_; (with_reducible refine (crc_Seal.calls (a0.extract 0 ((ji3) : Int).toNat) t105 _ A6.out).mono ?_); rintro e w8 ⟨rfl, hb⟩; refine ⟨_, rfl, ?_⟩; have n0_ := Aside0.mk (below_step (by repeat (first | (with_reducible first | exact HB.out | apply below_alloc | apply pw_below_drewN | apply below_drew1) | exact HB.out)) hb); clear HB; have HB := n0_; clear n0_; (try clear hb); (try clear hb2); (try clear hk); (try clear hi)))
          go_ret2
          exact ⟨by first | rfl | (simp [errW_none, errW_some] <;> rfl) | (simp only [← hji3]; first | rfl | (simp [errW_none, errW_some] <;> rfl)) | (simp [*, errW_none, errW_some] <;> rfl), by repeat (first | (with_reducible first | exact HB.out | apply below_alloc | apply pw_below_drewN | apply below_drew1) | exact HB.out)⟩
        · rw [if_neg c7] at H
          have c7b0 : (t105.toList == a0.toList) = false := beq_eq_false_iff_ne.mpr c7
          have c7b1 : (t105.toList != a0.toList) = true := bne_iff_ne.mpr c7
          simp only [Option.some.injEq, Prod.mk.injEq] at H
          obtain ⟨rfl, rfl⟩ := H
          go_enter Try.func20, Try.ntmps20
          go_wp2_with (first | ((with_reducible refine gate_callee (f := 18) rfl ?_); refine goesL_ (some 14) rfl rfl Try.func18 (by kernel_rfl) rfl #[.string (a0.extract 0 ((ji3) : Int).toNat)] rfl (by (try simp only [List.map_toArray, List.map_cons, List.map_nil]); first | done | (simp only [hji3]; rfl) | rfl | (simp only [List.length_drop, List.length_take]; rfl)) ?_; (with_reducible refine (crc_Seal.calls (a0.extract 0 ((ji3) : Int).toNat) t105 _ A6.out).mono ?_); rintro e w9 ⟨rfl, hb⟩; refine ⟨_, rfl, ?_⟩; have n0_ := Aside0.mk (below_step (by repeat (first | (with_reducible first | exact HB.out | apply below_alloc | apply pw_below_drewN | apply below_drew1) | exact HB.out)) hb); clear HB; have HB := n0_; clear n0_; (try clear hb); (try clear hb2); (try clear hk); (try clear hi)))
          go_ret2
          exact ⟨by first | rfl | (simp [errW_none, errW_some] <;> rfl) | (simp only [← hji3]; first | rfl | (simp [errW_none, errW_some] <;> rfl)) | (simp [*, errW_none, errW_some] <;> rfl), by repeat (first | (with_reducible first | exact HB.out | apply below_alloc | apply pw_below_drewN | apply below_drew1) | exact HB.out)⟩
      · rw [if_neg c5] at H
        exact absurd H (by simp)
    · rw [if_neg c4] at H
      exact absurd H (by simp)

/-! ### earshotlaw05_CrcBurst: function 7 -/
-- PURE intro a0 a1 a2 _ _ h2; unfold earshotlaw05_CrcBurst.f; rw [if_pos (by simp [Lit.wf, IntKind.wrap, IntKind.bits, IntKind.signed] at h2; simp; omega)]
/-- A row of bytes that a string was turned into: the byte behind its capacity alone is marked. -/
def Frz (W : World) (g : Nat) (xs : List Int) : Prop :=
  ∃ cur : Array Value, W.heap[g]? = some (.cells cur 5 (cur.size, cur.size + 1)) ∧ xs.length ≤ cur.size ∧ ∀ j, j < xs.length → cur[j]? = some (.int .u8 (xs.getD j 0))
theorem frz_lt {W : World} {g : Nat} {xs : List Int} (h : Frz W g xs) : g < W.heap.size := by
  obtain ⟨cur, h1, _⟩ := h
  exact (Array.getElem?_eq_some_iff.1 h1).1
theorem frz_made (W : World) (s : ByteArray) : Frz (Lib.bytesWorld W 5 s) W.heap.size (bytesOf s) := by
  refine ⟨Lib.bytesCells W 5 s, Lib.bytesWorld_at_new W _ s, ?_, fun j hj => ?_⟩
  · rw [bytesOf_length]
    simp only [Lib.bytesCells, Array.size_append, Array.size_map]
    exact Nat.le_add_right _ _
  · rw [bytesOf_length] at hj
    have h1 := Lib.bytesWorld_cell W 5 s j hj
    simp only [World.cell?, Lib.bytesWorld_at_new] at h1
    have h2 : (bytesOf s).getD j 0 = ((s.data.toList.getD j 0).toNat : Int) := by
      have hl : j < s.data.toList.length := by rw [data_length]; exact hj
      simp only [bytesOf, List.getD_eq_getElem?_getD, List.getElem?_map, List.getElem?_eq_getElem hl, Option.map_some, Option.getD_some]
    rw [h2]
    simpa using h1
theorem frz_cell {W : World} {g : Nat} {xs : List Int} (h : Frz W g xs) (j : Nat) (hj : j < xs.length) : W.cell? ⟨g, j, none⟩ = some (.int .u8 (xs.getD j 0)) ∧ W.frozen? ⟨g, j, none⟩ = false := by
  obtain ⟨cur, h1, h2, h3⟩ := h
  constructor
  · simp [World.cell?, h1, h3 j hj]
  · simp [World.frozen?, h1]; omega
theorem frz_set {W : World} {g : Nat} {xs : List Int} (h : Frz W g xs) (i : Nat) (v : Int) : Frz (W.setCell ⟨g, i, none⟩ (.int .u8 v)) g (xs.set i v) := by
  obtain ⟨cur, h1, h2, h3⟩ := h
  refine ⟨cur.setIfInBounds i (.int .u8 v), ?_, by simpa using h2, fun j hj => ?_⟩
  · have hlt := (Array.getElem?_eq_some_iff.1 h1).1
    have he := (Array.getElem?_eq_some_iff.1 h1).2
    simp only [World.setCell, Array.getElem?_modify, if_pos, h1, Option.map_some]
    simp
  · rw [List.length_set] at hj
    have h4 := h3 j hj
    have hlt := (Array.getElem?_eq_some_iff.1 h4).1
    by_cases hij : i = j
    · subst hij
      rw [Array.getElem?_setIfInBounds_self_of_lt hlt, List.getD_eq_getElem?_getD, List.getElem?_set_self hj]
      rfl
    · rw [Array.getElem?_setIfInBounds_ne hij, h4, List.getD_eq_getElem?_getD, List.getD_eq_getElem?_getD, List.getElem?_set_ne hij]
theorem frz_below {W W' : World} {g : Nat} {xs : List Int} (h : Frz W g xs) (hb : Below W.heap.size W W') : Frz W' g xs := by
  have hlt := frz_lt h
  obtain ⟨cur, h1, h2, h3⟩ := h
  exact ⟨cur, by rw [hb.block g hlt]; exact h1, h2, h3⟩
theorem frz_reads {W : World} {g : Nat} {xs : List Int} (h : Frz W g xs) (hl : xs.length ≤ 1000000) : ReadsInt W .u8 (some ⟨g, 0, none⟩) xs.length xs := by
  refine ⟨rfl, by omega, fun _ => ⟨_, rfl, fun j hj => ?_⟩⟩
  rw [add_plain]
  exact (frz_cell h j hj).1
theorem below_bytes {w W : World} (h : Below w.heap.size w W) (s : ByteArray) : Below w.heap.size w (Lib.bytesWorld W 5 s) :=
  ⟨h.os, h.tape, h.output, by rw [Lib.bytesWorld_size]; exact Nat.le_succ_of_le h.size, fun k hk => (Lib.bytesWorld_at_old W _ s k (Nat.lt_of_lt_of_le hk h.size)).trans (h.block k hk)⟩
theorem frz_alloc {W : World} {g : Nat} {xs : List Int} (h : Frz W g xs) (o : Obj) : Frz (W.alloc o) g xs := by
  have hlt := frz_lt h
  obtain ⟨cur, h1, h2, h3⟩ := h
  exact ⟨cur, by rw [Below.heap_alloc _ _ _ hlt]; exact h1, h2, h3⟩
theorem frz_drewN {W : World} {g : Nat} {xs : List Int} (h : Frz W g xs) (n : Nat) : Frz (W.drewN n) g xs := h
theorem crc_str2 (W : World) (t g : Nat) (s : ByteArray) (hg : g = W.heap.size) : Kd.string.C (W.alloc (.cells #[.string s] t)) (some ⟨g, 0, none⟩) [s].length [s] := by
  subst hg
  exact crc_str1 W t s
theorem setCell_size (W : World) (a : Addr) (v : Value) : W.heap.size = (W.setCell a v).heap.size := by simp [World.setCell]

/-- One bit of the register. -/
def sN (x : Nat) : Nat := (x / 2) ^^^ (if x % 2 = 1 then 3988292384 else 0)
def rN : Nat → Nat → Nat
  | 0, x => x
  | n + 1, x => rN n (sN x)
theorem div2_xor (a b : Nat) : (a ^^^ b) / 2 = (a / 2) ^^^ (b / 2) := by
  have h := Nat.shiftRight_xor_distrib (a := a) (b := b) (i := 1)
  simpa [Nat.shiftRight_succ] using h
theorem mod2_xor (a b : Nat) : (a ^^^ b) % 2 = (a % 2 + b % 2) % 2 := by
  have h := Nat.xor_mod_two_eq_one (a := a) (b := b)
  have hab : (a ^^^ b) % 2 = 0 ∨ (a ^^^ b) % 2 = 1 := Nat.mod_two_eq_zero_or_one _
  rcases Nat.mod_two_eq_zero_or_one a with ha | ha <;> rcases Nat.mod_two_eq_zero_or_one b with hb | hb <;> rcases hab with hc | hc <;> rw [ha, hb, hc] at h <;> rw [ha, hb, hc] <;> revert h <;> decide
theorem sN_xor (a b : Nat) : sN (a ^^^ b) = sN a ^^^ sN b := by
  unfold sN
  rw [div2_xor, mod2_xor]
  rcases Nat.mod_two_eq_zero_or_one a with ha | ha <;> rcases Nat.mod_two_eq_zero_or_one b with hb | hb <;> simp only [ha, hb]
  · simp
  · simp [Nat.xor_assoc]
  · simp only [Nat.reduceAdd, Nat.reduceMod, if_true, Nat.zero_ne_one, if_false, Nat.xor_zero, reduceIte]
    rw [Nat.xor_assoc, Nat.xor_comm (b / 2), ← Nat.xor_assoc]
  · simp only [Nat.reduceAdd, Nat.reduceMod, if_true, Nat.zero_ne_one, if_false, Nat.xor_zero, reduceIte]
    rw [Nat.xor_assoc, Nat.xor_comm 3988292384 (b / 2 ^^^ 3988292384), Nat.xor_assoc (b / 2), Nat.xor_self, Nat.xor_zero]
theorem rN_xor : ∀ (n a b : Nat), rN n (a ^^^ b) = rN n a ^^^ rN n b
  | 0, _, _ => rfl
  | n + 1, a, b => by simp only [rN]; rw [sN_xor, rN_xor n]
theorem sN_two (y : Nat) : sN (2 * y) = y := by
  unfold sN
  rw [if_neg (by omega), Nat.mul_div_cancel_left y (by decide)]
  simp
theorem rN_two : ∀ (n y : Nat), rN n (2 ^ n * y) = y
  | 0, y => by simp [rN]
  | n + 1, y => by
    simp only [rN]
    rw [Nat.pow_succ, Nat.mul_comm (2 ^ n) 2, Nat.mul_assoc, sN_two, rN_two n]
theorem rN_add : ∀ (m n x : Nat), rN (m + n) x = rN n (rN m x)
  | 0, n, x => by simp [rN]
  | m + 1, n, x => by rw [Nat.succ_add]; simp only [rN]; exact rN_add m n _
theorem sN_lt {x : Nat} (h : x < 2 ^ 32) : sN x < 2 ^ 32 := by
  unfold sN
  refine Nat.xor_lt_two_pow (by omega) ?_
  split <;> decide
theorem sN_pos {x : Nat} (h : x < 2 ^ 32) (h0 : x ≠ 0) : sN x ≠ 0 := by
  unfold sN
  split
  · intro e
    have e2 : (x / 2 ^^^ 3988292384) ^^^ 3988292384 = 0 ^^^ 3988292384 := by rw [e]
    rw [Nat.xor_assoc, Nat.xor_self, Nat.xor_zero, Nat.zero_xor] at e2
    omega
  · simp; omega
theorem rN_lt : ∀ (n : Nat) {x : Nat}, x < 2 ^ 32 → rN n x < 2 ^ 32
  | 0, _, h => h
  | n + 1, _, h => rN_lt n (sN_lt h)
theorem rN_pos : ∀ (n : Nat) {x : Nat}, x < 2 ^ 32 → x ≠ 0 → rN n x ≠ 0
  | 0, _, _, h0 => h0
  | n + 1, _, h, h0 => rN_pos n (sN_lt h) (sN_pos h h0)
theorem rN_zero : ∀ n, rN n 0 = 0
  | 0 => rfl
  | n + 1 => by simp only [rN]; exact rN_zero n
/-- The register behind a row of bytes. -/
def regN (r : Nat) : List Nat → Nat
  | [] => r
  | b :: l => regN (rN 8 (r ^^^ b)) l
/-- A row of bytes as one number, the first one lowest. -/
def numN : List Nat → Nat
  | [] => 0
  | b :: l => b + 256 * numN l
theorem low_xor (b m : Nat) (h : b < 256) : b + 256 * m = b ^^^ (256 * m) := by
  apply Nat.eq_of_testBit_eq
  intro j
  have e1 : 256 * m = 2 ^ 8 * m := by rfl
  rw [Nat.add_comm, e1, Nat.testBit_two_pow_mul_add m (by simpa using h), Nat.testBit_xor, Nat.testBit_two_pow_mul]
  split
  · rename_i hj
    simp [show ¬ (8 ≤ j) by omega]
  · rename_i hj
    have : b.testBit j = false := Nat.testBit_lt_two_pow (Nat.lt_of_lt_of_le h (by simpa using Nat.pow_le_pow_right (n := 2) (by decide) (show 8 ≤ j by omega)))
    simp [this, show 8 ≤ j by omega]
theorem regN_num : ∀ (l : List Nat) (r : Nat), (∀ b ∈ l, b < 256) → regN r l = rN (8 * l.length) (r ^^^ numN l)
  | [], r, _ => by simp [regN, rN, numN]
  | b :: l, r, h => by
    have hb := h b (by simp)
    simp only [regN, numN, List.length_cons]
    rw [regN_num l _ (fun x hx => h x (by simp [hx])), low_xor b _ hb, Nat.mul_succ, Nat.add_comm, rN_add]
    congr 1
    rw [← Nat.xor_assoc, rN_xor 8 (r ^^^ b), show 256 * numN l = 2 ^ 8 * numN l from rfl, rN_two]
theorem regN_append (r : Nat) : ∀ (a b : List Nat), regN r (a ++ b) = regN (regN r a) b := by
  intro a
  induction a generalizing r with
  | nil => intro b; rfl
  | cons x a ih => intro b; simp only [List.cons_append, regN]; exact ih _ b
theorem regN_lt : ∀ (l : List Nat) (r : Nat), r < 2 ^ 32 → (∀ b ∈ l, b < 256) → regN r l < 2 ^ 32
  | [], r, h, _ => h
  | b :: l, r, h, hb => by
    simp only [regN]
    exact regN_lt l _ (rN_lt 8 (Nat.xor_lt_two_pow h (Nat.lt_trans (hb b (by simp)) (by decide)))) (fun x hx => hb x (by simp [hx]))
def xorL (a b : List Nat) : List Nat := List.zipWith (· ^^^ ·) a b
theorem numN_xor : ∀ (a b : List Nat), a.length = b.length → (∀ x ∈ a, x < 256) → (∀ x ∈ b, x < 256) → numN (xorL a b) = numN a ^^^ numN b
  | [], [], _, _, _ => rfl
  | x :: a, y :: b, hl, ha, hb => by
    have hx := ha x (by simp)
    have hy := hb y (by simp)
    simp only [xorL, List.zipWith_cons_cons, numN]
    have ih := numN_xor a b (by simpa using hl) (fun z hz => ha z (by simp [hz])) (fun z hz => hb z (by simp [hz]))
    have h2 : x ^^^ y < 256 := Nat.xor_lt_two_pow (n := 8) hx hy
    rw [show List.zipWith (· ^^^ ·) a b = xorL a b from rfl, ih, low_xor _ _ h2, low_xor x _ hx, low_xor y _ hy]
    rw [show 256 * (numN a ^^^ numN b) = (256 * numN a) ^^^ (256 * numN b) by
      have := Nat.shiftLeft_xor_distrib (a := numN a) (b := numN b) (i := 8)
      simpa [Nat.shiftLeft_eq, Nat.mul_comm] using this]
    simp only [Nat.xor_assoc]
    congr 1
    rw [← Nat.xor_assoc (256 * numN a), Nat.xor_comm (256 * numN a) y, Nat.xor_assoc]
def le4 (c : Nat) : List Nat := [c % 256, c / 256 % 256, c / 65536 % 256, c / 16777216 % 256]
theorem le4_lt (c : Nat) : ∀ b ∈ le4 c, b < 256 := by
  intro b hb
  simp only [le4, List.mem_cons, List.not_mem_nil, or_false] at hb
  omega
theorem numN_le4 {c : Nat} (h : c < 2 ^ 32) : numN (le4 c) = c := by
  simp only [le4, numN]
  omega
/-- A sealed row ends at one and the same register. -/
theorem sealed_reg (s : List Nat) (hs : ∀ b ∈ s, b < 256) : regN 4294967295 (s ++ le4 (4294967295 ^^^ regN 4294967295 s)) = rN 32 4294967295 := by
  have hr := regN_lt s 4294967295 (by decide) hs
  have hc : 4294967295 ^^^ regN 4294967295 s < 2 ^ 32 := Nat.xor_lt_two_pow (by decide) hr
  rw [regN_append, regN_num _ _ (le4_lt _), numN_le4 hc]
  rw [show (le4 (4294967295 ^^^ regN 4294967295 s)).length = 4 from rfl, Nat.xor_comm, Nat.xor_assoc, Nat.xor_self, Nat.xor_zero]
/-- Bits that are turned within 32 in a row turn the register. -/
theorem turned_reg (l l' : List Nat) (from_ y r : Nat) (hl : l'.length = l.length) (hb : ∀ b ∈ l, b < 256) (hb' : ∀ b ∈ l', b < 256) (hn : numN l' = numN l ^^^ (2 ^ from_ * y)) (hf : from_ ≤ 8 * l.length) (hy : y < 2 ^ 32) (h0 : y ≠ 0) :
    regN r l' ≠ regN r l := by
  rw [regN_num _ _ hb, regN_num _ _ hb', hn, hl, ← Nat.xor_assoc, rN_xor]
  have e : rN (8 * l.length) (2 ^ from_ * y) = rN (8 * l.length - from_) y := by
    have h := rN_add from_ (8 * l.length - from_) (2 ^ from_ * y)
    rw [show from_ + (8 * l.length - from_) = 8 * l.length by omega] at h
    rw [h, rN_two]
  have hp := rN_pos (8 * l.length - from_) hy h0
  rw [e]
  intro he
  apply hp
  have h2 : rN (8 * l.length) (r ^^^ numN l) ^^^ (rN (8 * l.length) (r ^^^ numN l) ^^^ rN (8 * l.length - from_) y) = rN (8 * l.length) (r ^^^ numN l) ^^^ rN (8 * l.length) (r ^^^ numN l) := by rw [he]
  rwa [← Nat.xor_assoc, Nat.xor_self, Nat.zero_xor] at h2
theorem numN_set : ∀ (l : List Nat) (p : Nat) (_ : ∀ b ∈ l, b < 256) (h : p / 8 < l.length), numN (l.set (p / 8) (l[p / 8] ^^^ 2 ^ (p % 8))) = numN l ^^^ 2 ^ p
  | [], p, _, h => by simp at h
  | b :: l, p, hb, h => by
    have hb0 := hb b (by simp)
    by_cases hp : p / 8 = 0
    · have e : p % 8 = p := by omega
      have hlt : b ^^^ 2 ^ p < 256 := Nat.xor_lt_two_pow (n := 8) hb0 (Nat.pow_lt_pow_right (by decide) (by omega))
      simp only [hp, List.set_cons_zero, List.getElem_cons_zero, numN, e]
      rw [low_xor _ _ hlt, low_xor b _ hb0, Nat.xor_assoc, Nat.xor_assoc, Nat.xor_comm (2 ^ p)]
    · obtain ⟨q, rfl⟩ : ∃ q, p = q + 8 := ⟨p - 8, by omega⟩
      have e1 : (q + 8) / 8 = q / 8 + 1 := by omega
      have e2 : (q + 8) % 8 = q % 8 := by omega
      have hq : q / 8 < l.length := by rw [e1] at h; simpa using h
      have ih := numN_set l q (fun x hx => hb x (by simp [hx])) hq
      simp only [e1, e2, List.set_cons_succ, List.getElem_cons_succ, numN, ih]
      rw [low_xor b _ hb0, low_xor b _ hb0, Nat.xor_assoc]
      congr 1
      rw [show 2 ^ (q + 8) = 2 ^ q * 256 from Nat.pow_add 2 q 8]
      have := Nat.shiftLeft_xor_distrib (a := numN l) (b := 2 ^ q) (i := 8)
      simpa [Nat.shiftLeft_eq, Nat.mul_comm] using this

theorem crcStep_nat (x : Nat) (h : x < 2 ^ 32) : crcStep (x : Int) = ((sN x : Nat) : Int) := by
  unfold crcStep sN
  have e1 : (Go.bits .and .u32 (x : Int) 1) = ((x % 2 : Nat) : Int) := by
    have := u32_and_nat x 1 (by omega) (by decide)
    rw [Nat.and_one_is_mod] at this
    exact this
  have e2 : ((x : Int) / 2) = ((x / 2 : Nat) : Int) := by omega
  rw [e1, e2]
  rcases Nat.mod_two_eq_zero_or_one x with hx | hx
  · rw [hx, if_neg (by omega)]
    exact u32_xor_nat (x / 2) 0 (by omega) (by decide)
  · rw [hx, if_pos rfl]
    exact u32_xor_nat (x / 2) 3988292384 (by omega) (by decide)
theorem crcReps_nat : ∀ (n x : Nat), x < 2 ^ 32 → crcReps n (x : Int) = ((rN n x : Nat) : Int)
  | 0, _, _ => rfl
  | n + 1, x, h => by rw [crcReps, crcStep_nat x h, crcReps_nat n _ (sN_lt h)]; rfl
theorem crcByte_nat (r b : Nat) (h : r < 2 ^ 32) (hb : b < 256) : crcByte (r : Int) (b : Int) = ((rN 8 (r ^^^ b) : Nat) : Int) := by
  unfold crcByte
  have e : ((b : Int) % 4294967296) = (b : Int) := by omega
  rw [e, u32_xor_nat r b (by omega) (by omega), crcReps_nat 8 _ (Nat.xor_lt_two_pow h (by omega))]
def bl (s : ByteArray) : List Nat := s.data.toList.map UInt8.toNat
theorem bl_lt (s : ByteArray) : ∀ b ∈ bl s, b < 256 := by
  intro b hb
  simp only [bl, List.mem_map] at hb
  obtain ⟨c, _, rfl⟩ := hb
  exact c.toNat_lt
theorem bl_length (s : ByteArray) : (bl s).length = s.size := by rw [bl, List.length_map, data_length]
theorem bt_bl (s : ByteArray) (i : Nat) (h : i < s.size) : bt s (i : Int) = (((bl s)[i]'(by rw [bl_length]; exact h) : Nat) : Int) := by
  have h' : (i : Int).toNat < s.size := by simpa using h
  unfold bt
  rw [dif_pos h']
  simp only [bl, List.getElem_map, Int.toNat_natCast]
  rfl
theorem crcFrom_nat (s : ByteArray) : ∀ (n i r : Nat), n + i = s.size → r < 2 ^ 32 → crcFrom n s (i : Int) (r : Int) = ((regN r ((bl s).drop i) : Nat) : Int)
  | 0, i, r, h, _ => by
    rw [List.drop_eq_nil_of_le (by rw [bl_length]; omega)]
    rfl
  | n + 1, i, r, h, hr => by
    have hi : i < (bl s).length := by rw [bl_length]; omega
    rw [crcFrom, bt_bl s i (by omega), crcByte_nat r _ hr (bl_lt s _ (List.getElem_mem _)), List.drop_eq_getElem_cons hi, regN]
    have hlt : rN 8 (r ^^^ (bl s)[i]) < 2 ^ 32 := rN_lt 8 (Nat.xor_lt_two_pow hr (Nat.lt_trans (bl_lt s _ (List.getElem_mem _)) (by decide)))
    exact crcFrom_nat s n (i + 1) _ (by omega) hlt
theorem crcAll_nat : ∀ (l : List ByteArray) (r : Nat), r < 2 ^ 32 → crcAll l (r : Int) = ((regN r (l.flatMap bl) : Nat) : Int)
  | [], _, _ => rfl
  | s :: l, r, hr => by
    rw [crcAll, show (0 : Int) = ((0 : Nat) : Int) from rfl, crcFrom_nat s s.size 0 r (by omega) hr, List.drop_zero, crcAll_nat l _ (regN_lt _ _ hr (bl_lt s)), List.flatMap_cons, regN_append]
/-- The sum of a row of bytes. -/
def sumN (l : List Nat) : Nat := 4294967295 ^^^ regN 4294967295 l
theorem crcSum_nat (l : List ByteArray) : Go.bits .xor .u32 4294967295 (crcAll l 4294967295) = ((sumN (l.flatMap bl) : Nat) : Int) := by
  have hb : ∀ b ∈ l.flatMap bl, b < 256 := by
    intro b hb
    obtain ⟨s, _, h⟩ := List.mem_flatMap.1 hb
    exact bl_lt s b h
  have h := crcAll_nat l 4294967295 (by decide)
  rw [show ((4294967295 : Nat) : Int) = 4294967295 from rfl] at h
  rw [h]
  exact u32_xor_nat 4294967295 _ (by decide) (regN_lt _ _ (by decide) hb)
theorem crc_Sum_f (l : List ByteArray) (h : crcOk l = true) : crc_Sum.f l = some ((sumN (l.flatMap bl) : Nat) : Int) := by
  unfold crc_Sum.f
  rw [if_pos h, crcSum_nat]
theorem sumN_lt (l : List Nat) (h : ∀ b ∈ l, b < 256) : sumN l < 2 ^ 32 := Nat.xor_lt_two_pow (by decide) (regN_lt _ _ (by decide) h)
theorem bl_extract (s : ByteArray) (a b : Nat) : bl (s.extract a b) = ((bl s).take b).drop a := by
  unfold bl
  rw [← List.map_take, ← List.map_drop]
  congr 1
  rw [ByteArray.data_extract, Array.toList_extract, List.extract_eq_take_drop, List.drop_take]
theorem awake_true : earshotlaw05_awake.f = some true := by
  unfold earshotlaw05_awake.f crc_Sum.f
  rw [if_pos (by decide +kernel)]
  simp only [Option.bind_some]
  decide +kernel
theorem size_ok {l : List ByteArray} (h : l.length ≤ 10) (hs : ∀ s ∈ l, s.size ≤ 100) : crcOk l = true := by
  simp only [crcOk, Bool.and_eq_true, decide_eq_true_eq, List.all_eq_true]
  exact ⟨by omega, fun s h => by have := hs s h; omega⟩

theorem short_some (a : ByteArray) : ∃ s, earshotlaw05_short.f a = some s ∧ s.size ≤ 60 := by
  unfold earshotlaw05_short.f
  split
  · rename_i h
    rw [if_pos (by decide), if_pos (by omega)]
    exact ⟨_, rfl, by rw [ByteArray.size_extract]; omega⟩
  · rename_i h
    exact ⟨a, rfl, by omega⟩

def sealB (s : ByteArray) : ByteArray := strOfNums (bytesOf s ++ crcLe 4 (crcSumOf s))
theorem bl_ext {a b : ByteArray} (h : bl a = bl b) : a = b := by
  have h2 : a.data.toList = b.data.toList := (List.map_inj_right (f := UInt8.toNat) (fun x y e => UInt8.toNat_inj.1 e)).1 h
  cases a; cases b
  simpa using h2
theorem bl_nums (xs : List Nat) (h : ∀ x ∈ xs, x < 256) : bl (strOfNums (xs.map Int.ofNat)) = xs := by
  unfold bl
  rw [strOfNums_data, List.map_map, List.map_map]
  have : ∀ x ∈ xs, ((UInt8.toNat ∘ fun n : Int => UInt8.ofNat n.toNat) ∘ Int.ofNat) x = x := by
    intro x hx
    have := h x hx
    simp only [Function.comp, Int.ofNat_eq_natCast, Int.toNat_natCast, UInt8.toNat_ofNat']
    omega
  rw [List.map_congr_left this]
  simp
theorem bytesOf_bl (s : ByteArray) : bytesOf s = (bl s).map Int.ofNat := by
  simp [bytesOf, bl, List.map_map, Function.comp_def]
theorem crcLe_nat (c : Nat) : crcLe 4 (c : Int) = (le4 c).map Int.ofNat := by
  simp only [crcLe, le4, List.map_cons, List.map_nil, Int.ofNat_eq_natCast]
  refine List.cons_eq_cons.2 ⟨by omega, List.cons_eq_cons.2 ⟨by omega, List.cons_eq_cons.2 ⟨by omega, List.cons_eq_cons.2 ⟨by omega, rfl⟩⟩⟩⟩
theorem bl_seal (s : ByteArray) : bl (sealB s) = bl s ++ le4 (sumN (bl s)) := by
  have e : crcSumOf s = ((sumN (bl s) : Nat) : Int) := by
    unfold crcSumOf
    rw [crcSum_nat, List.flatMap_cons, List.flatMap_nil, List.append_nil]
  unfold sealB
  rw [e, bytesOf_bl, crcLe_nat, ← List.map_append, bl_nums]
  intro x hx
  rcases List.mem_append.1 hx with h | h
  · exact bl_lt s x h
  · exact le4_lt _ x h
theorem seal_size (s : ByteArray) : (sealB s).size = s.size + 4 := by
  rw [← bl_length, bl_seal, List.length_append, bl_length]
  rfl
theorem seal_head (s : ByteArray) : (sealB s).extract 0 s.size = s := by
  refine bl_ext ?_
  rw [bl_extract, List.drop_zero, bl_seal, List.take_left' (bl_length s)]
theorem seal_f (s : ByteArray) (h : s.size ≤ 1000) : crc_Seal.f s = some (sealB s) := by
  unfold crc_Seal.f
  rw [if_pos (by omega)]
  rfl
theorem open_seal (s : ByteArray) (h : s.size ≤ 1000) : crc_Open.f (sealB s) = some (s, true) := by
  unfold crc_Open.f
  have hz := seal_size s
  have e : wrap64 (((sealB s).size : Int) - 4) = (s.size : Int) := by rw [hz]; unfold wrap64; omega
  rw [if_neg (by omega), e, if_pos (by omega), if_pos (by omega), Int.toNat_natCast, seal_head, seal_f s h, Option.bind_some, if_pos rfl]
theorem open_short (s : ByteArray) (h : s.size < 4) : crc_Open.f s = some ((⟨#[]⟩ : ByteArray), false) := by
  unfold crc_Open.f
  rw [if_pos (by omega)]
theorem data_of_toList {a b : ByteArray} (h : a.toList = b.toList) : a = b := by
  have e : ∀ s : ByteArray, s.toList = s.data.toList := fun s => ByteArray.toList_eq s
  rw [e, e] at h
  cases a; cases b
  simpa using h
/-- What is opened is sealed. -/
theorem open_sealed (f : ByteArray) (hf : f.size ≤ 1000) (h4 : 4 ≤ f.size) : (∃ s, s.size ≤ 996 ∧ f = sealB s ∧ crc_Open.f f = some (s, true)) ∨ (∀ s, s.size ≤ 1000 → f ≠ sealB s) ∧ crc_Open.f f = some ((⟨#[]⟩ : ByteArray), false) := by
  have e : wrap64 ((f.size : Int) - 4) = ((f.size - 4 : Nat) : Int) := by unfold wrap64; omega
  have hs : (f.extract 0 (f.size - 4)).size = f.size - 4 := by rw [ByteArray.size_extract]; omega
  by_cases hq : sealB (f.extract 0 (f.size - 4)) = f
  · refine .inl ⟨f.extract 0 (f.size - 4), by omega, hq.symm, ?_⟩
    have := open_seal (f.extract 0 (f.size - 4)) (by omega)
    rwa [hq] at this
  · refine .inr ⟨fun s hs2 he => hq ?_, ?_⟩
    · have : f.extract 0 (f.size - 4) = s := by
        rw [he, seal_size, Nat.add_sub_cancel, seal_head]
      rw [this, he]
    · unfold crc_Open.f
      rw [if_neg (by omega), e, if_pos (by omega), if_pos (by omega), Int.toNat_natCast, seal_f _ (by omega), Option.bind_some, if_neg (fun h => hq (data_of_toList h))]

def tellI (n q : Int) : Int := Int.tmod (wrap64 (Int.tmod q n + n)) n
theorem tell_range {n : Nat} (h0 : 0 < n) (h1 : n ≤ 1000) (q : Int) : 0 ≤ tellI (n : Int) q ∧ tellI (n : Int) q < (n : Int) := by
  unfold tellI
  have a := Int.lt_tmod_of_pos q (show (0 : Int) < (n : Int) by omega)
  have b := Int.tmod_lt_of_pos q (show (0 : Int) < (n : Int) by omega)
  rw [show wrap64 (Int.tmod q (n : Int) + (n : Int)) = Int.tmod q (n : Int) + (n : Int) by unfold wrap64; omega, Int.tmod_eq_emod_of_nonneg (by omega)]
  exact ⟨Int.emod_nonneg _ (by omega), Int.emod_lt_of_pos _ (by omega)⟩
def Turned (o : List Nat) (fr y : Nat) (xs : List Int) : Prop := xs.length = o.length ∧ (∀ x ∈ xs, 0 ≤ x ∧ x < 256) ∧ numN (xs.map Int.toNat) = numN o ^^^ (2 ^ fr * y)
theorem turned_none (s : ByteArray) (fr : Nat) : Turned (bl s) fr 0 (bytesOf s) := by
  refine ⟨by rw [bytesOf_bl, List.length_map], fun x hx => ?_, ?_⟩
  · rw [bytesOf_bl] at hx
    obtain ⟨b, hb, rfl⟩ := List.mem_map.1 hx
    have := bl_lt s b hb
    simp only [Int.ofNat_eq_natCast]
    omega
  · rw [bytesOf_bl, List.map_map]
    have : (Int.toNat ∘ Int.ofNat) = id := by funext n; simp
    rw [this, List.map_id, Nat.mul_zero, Nat.xor_zero]
theorem turned_set {o : List Nat} {fr y i : Nat} {xs : List Int} (h : Turned o fr y xs) (hp : (fr + i) / 8 < xs.length) :
    Turned o fr (y ^^^ 2 ^ i) (xs.set ((fr + i) / 8) (Go.bits .xor .u8 (xs.getD ((fr + i) / 8) 0) ((2 ^ ((fr + i) % 8) : Nat) : Int))) := by
  obtain ⟨h1, h2, h3⟩ := h
  have hx : xs.getD ((fr + i) / 8) 0 = xs[(fr + i) / 8] := by rw [List.getD_eq_getElem?_getD, List.getElem?_eq_getElem hp]; rfl
  have hr := h2 _ (List.getElem_mem hp)
  have hpw : 2 ^ ((fr + i) % 8) < 256 := by
    have : (fr + i) % 8 < 8 := Nat.mod_lt _ (by decide)
    calc 2 ^ ((fr + i) % 8) ≤ 2 ^ 7 := Nat.pow_le_pow_right (by decide) (by omega)
      _ < 256 := by decide
  obtain ⟨b, hb⟩ := Int.eq_ofNat_of_zero_le hr.1
  rw [hb] at hr
  have hv : Go.bits .xor .u8 (xs.getD ((fr + i) / 8) 0) ((2 ^ ((fr + i) % 8) : Nat) : Int) = ((b ^^^ 2 ^ ((fr + i) % 8) : Nat) : Int) := by
    rw [hx, hb, u8_xor_nat b _ (by omega) hpw]
  rw [hv]
  have hlt : b ^^^ 2 ^ ((fr + i) % 8) < 256 := Nat.xor_lt_two_pow (n := 8) (by omega) hpw
  refine ⟨by rw [List.length_set, h1], fun x hx => ?_, ?_⟩
  · rcases List.mem_or_eq_of_mem_set hx with h | rfl
    · exact h2 x h
    · omega
  · rw [List.map_set]
    have hl : (fr + i) / 8 < (xs.map Int.toNat).length := by rw [List.length_map]; exact hp
    have hs := numN_set (xs.map Int.toNat) (fr + i) (fun b hb => by
      obtain ⟨x, hx, rfl⟩ := List.mem_map.1 hb
      have := h2 x hx
      omega) hl
    have e : (xs.map Int.toNat)[(fr + i) / 8] = b := by rw [List.getElem_map, hb]; rfl
    rw [e] at hs
    rw [Int.toNat_natCast, hs, h3, Nat.xor_assoc]
    congr 1
    have := Nat.shiftLeft_xor_distrib (a := y) (b := 2 ^ i) (i := fr)
    simp only [Nat.shiftLeft_eq] at this
    rw [Nat.mul_comm (2 ^ fr) (y ^^^ 2 ^ i), this, Nat.mul_comm y, Nat.mul_comm (2 ^ i), ← Nat.pow_add]
theorem turned_opens (s : ByteArray) (hs : s.size ≤ 60) {fr y : Nat} {xs : List Int} (h : Turned (bl (sealB s)) fr y xs) (hf : fr < 8 * (sealB s).size) (hy : y < 2 ^ 32) (h0 : y ≠ 0) :
    crc_Open.f (strOfNums xs) = some ((⟨#[]⟩ : ByteArray), false) := by
  obtain ⟨h1, h2, h3⟩ := h
  have hxs : xs = (xs.map Int.toNat).map Int.ofNat := by
    rw [List.map_map]
    conv => lhs; rw [← List.map_id xs]
    refine List.map_congr_left (fun x hx => ?_)
    have := h2 x hx
    simp; omega
  have hbl : bl (strOfNums xs) = xs.map Int.toNat := by
    conv => lhs; rw [hxs]
    exact bl_nums _ (fun b hb => by
      obtain ⟨x, hx, rfl⟩ := List.mem_map.1 hb
      have := h2 x hx
      omega)
  have hsz := seal_size s
  have hlen : (strOfNums xs).size = s.size + 4 := by rw [← bl_length, hbl, List.length_map, h1, bl_length, hsz]
  rcases open_sealed (strOfNums xs) (by omega) (by omega) with ⟨t, ht, he, _⟩ | ⟨_, h⟩
  · exfalso
    have e1 : regN 4294967295 (xs.map Int.toNat) = rN 32 4294967295 := by rw [← hbl, he, bl_seal]; exact sealed_reg _ (bl_lt t)
    have e2 : regN 4294967295 (bl (sealB s)) = rN 32 4294967295 := by rw [bl_seal]; exact sealed_reg _ (bl_lt s)
    refine turned_reg (bl (sealB s)) (xs.map Int.toNat) fr y 4294967295 (by rw [List.length_map, h1]) (bl_lt _) ?_ h3 (by rw [bl_length]; omega) hy h0 ?_
    · intro b hb
      obtain ⟨x, hx, rfl⟩ := List.mem_map.1 hb
      have := h2 x hx
      omega
    · first | rw [e1, e2] | (rw [e1]; exact e2.symm)
  · exact h

theorem burst_y {y i : Nat} (h : y < 2 ^ i) : y ^^^ 2 ^ i < 2 ^ (i + 1) ∧ (true = true → y ^^^ 2 ^ i ≠ 0) ∧ (true = false → y ^^^ 2 ^ i = 0) := by
  refine ⟨Nat.xor_lt_two_pow (Nat.lt_of_lt_of_le h (Nat.pow_le_pow_right (by decide) (by omega))) (Nat.pow_lt_pow_right (by decide) (by omega)), fun _ e => ?_, fun e => by cases e⟩
  have h2 : y ^^^ (y ^^^ 2 ^ i) = 2 ^ i := by rw [← Nat.xor_assoc, Nat.xor_self, Nat.zero_xor]
  rw [e, Nat.xor_zero] at h2
  omega
theorem burst_n {y i : Nat} (h : y < 2 ^ i) : y < 2 ^ (i + 1) := Nat.lt_of_lt_of_le h (Nat.pow_le_pow_right (by decide) (by omega))
theorem burst_v (xs : List Int) (p e : Nat) (h : p < xs.length) (he : e < 8) : Go.bits .xor .u8 (xs.getD p 0) ((2 ^ e : Nat) : Int) = Go.bits .xor .u8 xs[p] ((2 : Int) ^ e % 256) := by
  have e1 : xs.getD p 0 = xs[p] := by rw [List.getD_eq_getElem?_getD, List.getElem?_eq_getElem h]; rfl
  have e2 : ((2 ^ e : Nat) : Int) = (2 : Int) ^ e % 256 := by
    have : e = 0 ∨ e = 1 ∨ e = 2 ∨ e = 3 ∨ e = 4 ∨ e = 5 ∨ e = 6 ∨ e = 7 := by omega
    rcases this with rfl | rfl | rfl | rfl | rfl | rfl | rfl | rfl <;> rfl
  rw [e1, e2]
def earshotlaw05_CrcBurst.f (a0 : ByteArray) (a1 a2 : Int) : Option (Bool) := if decide (0 ≤ a2) && decide (a2 < 4294967296) then some true else none
set_option maxHeartbeats 8000000 in
set_option maxRecDepth 100000 in
theorem earshotlaw05_CrcBurst.calls (a0 : ByteArray) (a1 a2 : Int) (r : Bool) (w : World) (h : earshotlaw05_CrcBurst.f a0 a1 a2 = some r) :
    Calls Try.prog 7 #[.string a0, .int .i64 a1, .int .u32 a2] w fun e w' => e = .returned (.bool r) ∧ Below w.heap.size w w' := by
  unfold earshotlaw05_CrcBurst.f at h
  split at h
  case isFalse => cases h
  rename_i hz
  obtain rfl := Option.some.inj h
  clear h
  simp only [Bool.and_eq_true, decide_eq_true_eq] at hz
  obtain ⟨z0, z1⟩ := hz
  obtain ⟨s, hs, hsl⟩ := short_some a0
  have hsz := seal_size s
  have hf := seal_f s (by omega)
  obtain ⟨g, hg⟩ : ∃ g, sealB s = g := ⟨_, rfl⟩
  rw [hg] at hsz hf
  obtain ⟨N, hN⟩ : ∃ N : Nat, g.size = N := ⟨_, rfl⟩
  have n0 : 4 ≤ N := by omega
  have n1 : N ≤ 64 := by omega
  obtain ⟨i0, i1⟩ := tell_range (n := 8 * N) (by omega) (by omega) a1
  obtain ⟨fr, hfr⟩ := Int.eq_ofNat_of_zero_le i0
  have f1 : fr < 8 * N := by omega
  have hiv : Int.tmod (wrap64 (Int.tmod a1 (8 * (N : Int)) + 8 * (N : Int))) (8 * (N : Int)) = (fr : Int) := by rw [← hfr]; rfl
  have hiw : Int.tmod (IntKind.i64.wrap (Int.tmod a1 (8 * (N : Int)) + 8 * (N : Int))) (8 * (N : Int)) = (fr : Int) := by rw [i64_w]; exact hiv
  obtain ⟨W, hW⟩ := Int.eq_ofNat_of_zero_le z0
  subst hW
  have N1 := Aside0.mk awake_true
  have N2 := Aside0.mk hs
  have N3 := Aside0.mk hf
  have HN := Aside0.mk hN
  have hn0 : (8 * (N : Int) == 0) = false := beq_eq_false_iff_ne.mpr (by omega)
  have hl4 : decide (N < 4) = false := decide_eq_false (by omega)
  have HZ := Aside0.mk z1
  clear hs hf i0 i1 hfr hN hsz z0 z1
  go_enter Try.func7, Try.ntmps7
  go_wp2_with (first
    | (go_at_call 13; (with_reducible refine (earshotlaw05_awake.calls true _ N1.out).mono ?_); rintro e w1 ⟨rfl, hb⟩; have HB1 := Aside0.mk hb; clear hb)
    | (go_at_call 14; (with_reducible refine (earshotlaw05_short.calls a0 s _ N2.out).mono ?_); rintro e w' ⟨rfl, ⟨nd, rfl⟩⟩)
    | (go_at_call 18; (with_reducible refine (crc_Seal.calls s g _ N3.out).mono ?_); rintro e w3 ⟨rfl, hb⟩; have HB3 := Aside0.mk (below_step (pw_below_drewN HB1.out nd) hb); clear hb; have hcv := Lib.run_convert_string_bytes (P := Try.prog) w3 9 28 5 g Try.underlying9 Try.underlying28 Try.underlying5; rw [HN.out] at hcv; have HF := Aside0.mk (frz_made w3 g)))
  have HT := Aside0.mk (turned_none g fr)
  have HB4 := Aside0.mk (below_bytes HB3.out g)
  go_loopw [11, 12] (fun v u wr => ∃ (b : Bool) (i y : Nat) (xs : List Int), v = .bool b ∧ u = .int .i64 (i : Int) ∧ i ≤ 32 ∧ fr + i ≤ 8 * N ∧ Aside0 (Frz wr w3.heap.size xs) ∧ Aside0 (Turned (bl g) fr y xs) ∧ Aside0 (y < 2 ^ i ∧ (b = true → y ≠ 0) ∧ (b = false → y = 0)) ∧ Aside0 (Below w.heap.size w wr)) (fun _ u _ => 32 - (intOf u).toNat)
  case atStart => exact ⟨false, 0, 0, bytesOf g, rfl, rfl, by omega, by omega, HF, HT, ⟨⟨by decide, (by intro h; cases h), fun _ => rfl⟩⟩, HB4⟩
  case round =>
    obtain ⟨b, i, y, xs, rfl, rfl, hi, hfi, HX, HU, HY, HW⟩ := hrel
    by_cases hlt : i < 32 ∧ fr + i < 8 * N
    · obtain ⟨hlt, hlf⟩ := hlt
      have hd : decide ((fr : Int) + (i : Int) < 8 * (N : Int)) = true := decide_eq_true (by omega)
      have hlen : (fr + i) / 8 < xs.length := by rw [HU.out.1, bl_length, HN.out]; omega
      have hfc := frz_cell HX.out ((fr + i) / 8) hlen
      have hfc1 := hfc.1
      have hfc2 := hfc.2
      clear hfc
      rcases Bool.eq_false_or_eq_true (Go.bits .and .u32 ((W : Int) / 2 ^ i) 1 == 1) with hbit | hbit
      · have hts := turned_set HU.out hlen
        go_wp2
        go_roundw
        case rel =>
          refine ⟨true, i + 1, y ^^^ 2 ^ i, _, rfl, by go_num, by omega, by omega, ⟨frz_set HX.out _ _⟩, ⟨?_⟩, ⟨burst_y HY.out.1⟩, ⟨below_set HW.out HB3.out.size⟩⟩
          rw [burst_v _ _ _ hlen (Nat.mod_lt _ (by decide))] at hts
          exact hts
        case measure => simp [intOf]; omega
      · go_wp2
        go_roundw
        case rel => exact ⟨b, i + 1, y, xs, rfl, by go_num, by omega, by omega, HX, HU, ⟨burst_n HY.out.1, HY.out.2⟩, HW⟩
        case measure => simp [intOf]; omega
    · have hex : (decide ((i : Int) < 32) = true ∧ decide ((fr : Int) + (i : Int) < 8 * (N : Int)) = false) ∨ i = 32 := by
        by_cases h : i = 32
        · exact .inr h
        · exact .inl ⟨decide_eq_true (by omega), decide_eq_false (by omega)⟩
      clear hlt
      rcases hex with ⟨he1, he2⟩ | rfl
      all_goals
        rcases b with _ | _
        · have y0 := HY.out.2.2 rfl
          subst y0
          have hlen : fr / 8 < xs.length := by rw [HU.out.1, bl_length, HN.out]; omega
          have hfc := frz_cell HX.out (fr / 8) hlen
          have hfc1 := hfc.1
          have hfc2 := hfc.2
          clear hfc
          have hts := turned_set (i := 0) HU.out hlen
          have hcv2 : ∀ (c : Nat) (v : Int), (convert 28 9 (.slice (some ⟨w3.heap.size, 0, none⟩) N c)).run Try.prog (wr.setCell ⟨w3.heap.size, fr / 8, none⟩ (.int .u8 v)) = .ok (.string (strOfNums (xs.set (fr / 8) v))) (wr.setCell ⟨w3.heap.size, fr / 8, none⟩ (.int .u8 v)) := fun c v => by
            have hl2 : (xs.set (fr / 8) v).length = N := by rw [List.length_set, HU.out.1, bl_length, HN.out]
            have z := string_of_reads (P := Try.prog) (c := c) Try.underlying28 Try.underlying5 Try.underlying9 (frz_reads (frz_set HX.out (fr / 8) v) (by rw [hl2]; omega))
            rwa [hl2] at z
          have hopen := turned_opens s hsl (fr := fr) (y := 0 ^^^ 2 ^ 0) (xs := xs.set ((fr + 0) / 8) (Go.bits .xor .u8 (xs.getD ((fr + 0) / 8) 0) ((2 ^ ((fr + 0) % 8) : Nat) : Int))) (by rw [hg]; exact hts) (by rw [hg, HN.out]; exact f1) (by decide) (by decide)
          rw [Nat.add_zero, burst_v _ _ _ hlen (Nat.mod_lt _ (by decide))] at hopen
          have HO := Aside0.mk hopen
          clear hts hopen
          go_wp2_with (go_at_call 20; (with_reducible refine (crc_Open.calls _ _ _ _ HO.out).mono ?_); rintro e w9 ⟨rfl, hb⟩; have HB9 := Aside0.mk (below_step (below_set HW.out HB3.out.size) hb); clear hb)
          go_ret
          exact ⟨rfl, HB9.out⟩
        · have hcv2 : ∀ (c : Nat), (convert 28 9 (.slice (some ⟨w3.heap.size, 0, none⟩) N c)).run Try.prog wr = .ok (.string (strOfNums xs)) wr := fun c => by
            have hl2 : xs.length = N := by rw [HU.out.1, bl_length, HN.out]
            have z := string_of_reads (P := Try.prog) (c := c) Try.underlying28 Try.underlying5 Try.underlying9 (frz_reads HX.out (by rw [hl2]; omega))
            rwa [hl2] at z
          have HO := Aside0.mk (turned_opens s hsl (fr := fr) (y := y) (xs := xs) (by rw [hg]; exact HU.out) (by rw [hg, HN.out]; exact f1) (Nat.lt_of_lt_of_le HY.out.1 (Nat.pow_le_pow_right (by decide) hi)) (HY.out.2.1 rfl))
          go_wp2_with (go_at_call 20; (with_reducible refine (crc_Open.calls _ _ _ _ HO.out).mono ?_); rintro e w9 ⟨rfl, hb⟩; have HB9 := Aside0.mk (below_step HW.out hb); clear hb)
          go_ret
          exact ⟨rfl, HB9.out⟩

/-- THE ONE PURE STATEMENT of earshotlaw05_CrcBurst: yours. -/
def earshotlaw05_CrcBurst.Pure : Prop := ∀ (a0 : ByteArray) (a1 : Int) (a2 : Int), a0.size ≤ 140737488351232 → (Lit.int .i64 a1).wf = true → (Lit.int .u32 a2).wf = true → earshotlaw05_CrcBurst.f a0 a1 a2 = some true
theorem earshotlaw05_CrcBurst.walk (P : earshotlaw05_CrcBurst.Pure) (a0 : ByteArray) (a1 : Int) (a2 : Int) (w : World) (w0 : a0.size ≤ 140737488351232) (w1 : (Lit.int .i64 a1).wf = true) (w2 : (Lit.int .u32 a2).wf = true) :
    Calls Try.prog 7 #[.string a0, .int .i64 a1, .int .u32 a2] w fun e w' => e = .returned (.bool true) ∧ Below w.heap.size w w' := by
  have h := P a0 a1 a2 w0 w1 w2
  refine (earshotlaw05_CrcBurst.calls a0 a1 a2 true w h).mono ?_
  rintro e w' ⟨rfl, hd⟩
  exact ⟨rfl, hd⟩

end Go.Proofs.Yteihjdpbahfnnaa.PCrcBurst
