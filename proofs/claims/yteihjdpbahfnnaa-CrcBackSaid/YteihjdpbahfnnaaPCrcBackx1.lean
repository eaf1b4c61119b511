-- Written by a program of this work (wip/tools) for this claim; Lean checks it.
import Derived.Test.YteihjdpbahfnnaaPCrcBackx0
namespace Go.Proofs.Yteihjdpbahfnnaa.PCrcBack
open Go.RowKit Go.Proofs.YteihjdpbahfnnaaW.PrintWords Go.Proofs.YteihjdpbahfnnaaW.PrintLast Go.Proofs.YteihjdpbahfnnaaW.PrintMore
attribute [local go_sem] max2_int min2_int max_two min_two max_three min_three max_four min_four   -- for this text's walks alone
set_option linter.unusedVariables false
set_option linter.unusedSimpArgs false

/-! ### crc_Sum: function 15 -/
def crcStep (r : Int) : Int := Go.bits .xor .u32 (r / 2) ((3988292384 * (Go.bits .and .u32 r 1)) % 4294967296)
def crcReps : Nat → Int → Int
  | 0, r => r
  | n + 1, r => crcReps n (crcStep r)
def crcByte (r b : Int) : Int := crcReps 8 (Go.bits .xor .u32 r (b % 4294967296))
def crcFrom : Nat → ByteArray → Int → Int → Int
  | 0, _, _, r => r
  | n + 1, s, i, r => crcFrom n s (i + 1) (crcByte r (bt s i))
def crcAll : List ByteArray → Int → Int
  | [], r => r
  | s :: l, r => crcAll l (crcFrom s.size s 0 r)
theorem grown_set (W : World) (b : Nat) (v : Value) : W.grownBy (W.setCell ⟨b, 0, none⟩ v) (some b) :=
  ⟨rfl, rfl, rfl, by simp [World.setCell], fun k _ hk => Below.heap_setCell _ _ _ k (fun e => hk (by rw [e]))⟩
theorem grown_trans {a w w' : World} {row : Option Nat} (h : a.grownBy w row) (k : w.grownBy w' row) : a.grownBy w' row := World.grownBy.trans h k
theorem crc_next (g : Nat) (r b : Int) (w : World) (hg : w.heap[g]? = some (.cells #[.int .u32 r] 25 (0, 0))) :
    Calls Try.prog 30 #[.int .u8 b, .pointer (some ⟨g, 0, none⟩)] w fun e w' => e = .returned (.tuple #[]) ∧ Aside0 (w'.heap[g]? = some (.cells #[.int .u32 (crcByte r b)] 25 (0, 0))) ∧ Aside0 (w.grownBy w' (some g)) := by
  have hc := cell_of_one hg
  have hf := free_of_one hg
  have HG := Aside0.mk hg
  clear hg
  go_enter Try.func30, Try.ntmps30
  go_wp2
  clear hc hf
  go_loopw [8] (fun v wr => ∃ (n : Nat) (x : Int), n ≤ 8 ∧ v = .int .i64 (n : Int) ∧ Aside0 (wr.heap[g]? = some (.cells #[.int .u32 x] 25 (0, 0))) ∧ Aside0 (w.grownBy wr (some g)) ∧ Aside0 (crcReps (8 - n) x = crcByte r b)) (fun v _ => 8 - (intOf v).toNat)
  case atStart => exact ⟨0, _, by omega, rfl, ⟨one_setCell HG.out⟩, ⟨grown_set _ _ _⟩, ⟨rfl⟩⟩
  case round =>
    obtain ⟨n, x, hn, rfl, HX, HW, HE⟩ := hrel
    have hc := cell_of_one HX.out
    have hf := free_of_one HX.out
    by_cases hlt : n < 8
    · go_wp2
      go_roundw
      case rel => exact ⟨n + 1, _, by omega, by go_num, ⟨one_setCell HX.out⟩, ⟨grown_trans HW.out (grown_set _ _ _)⟩, ⟨by rw [← HE.out, show 8 - n = (8 - (n + 1)) + 1 by omega]; rfl⟩⟩
      case measure => simp [intOf]; omega
    · obtain rfl : n = 8 := by omega
      go_wp2
      go_end0
      exact ⟨rfl, ⟨by have := HE.out; simp only [crcReps, Nat.sub_self] at this; rw [← this]; exact HX.out⟩, HW⟩
def crcOk (l0 : List ByteArray) : Bool := decide (l0.length ≤ 4611686018427387904) && l0.all fun s => decide (s.size ≤ 4611686018427387904)
def crc_Sum.f (l0 : List ByteArray) : Option (Int) := if crcOk l0 = true then some (Go.bits .xor .u32 4294967295 (crcAll l0 4294967295)) else none
theorem crc_drop (l : List ByteArray) (i : Nat) (h : i < l.length) (r : Int) : crcAll (l.drop i) r = crcAll (l.drop (i + 1)) (crcFrom (l.getD i ByteArray.empty).size (l.getD i ByteArray.empty) 0 r) := by
  rw [List.drop_eq_getElem_cons h, crcAll, List.getD_eq_getElem?_getD, List.getElem?_eq_getElem h]
  rfl
set_option maxHeartbeats 8000000 in
theorem crc_Sum.calls (A0 : Option Addr) (c0 : Nat) (l0 : List ByteArray) (r : Int) (w : World) (hr0 : Kd.C Kd.string w A0 l0.length l0) (hc0 : l0.length ≤ c0) (h : crc_Sum.f l0 = some r) :
    Calls Try.prog 15 #[.slice A0 l0.length c0] w fun e w' => e = .returned (.int .u32 r) ∧ Below w.heap.size w w' := by
  have hok : crcOk l0 = true := by
    unfold crc_Sum.f at h
    split at h
    · assumption
    · cases h
  have HR : Aside0 (Go.bits .xor .u32 4294967295 (crcAll l0 4294967295) = r) := by
    unfold crc_Sum.f at h
    rw [if_pos hok] at h
    exact ⟨Option.some.inj h⟩
  clear h
  simp only [crcOk, Bool.and_eq_true, decide_eq_true_eq, List.all_eq_true] at hok
  obtain ⟨hl, hs⟩ := hok
  have HS := Aside0.mk hs
  have HC := Aside0.mk hr0
  have HC0 := Aside0.mk hc0
  clear hs hr0 hc0
  have hmf : ∀ (fn : Fn) (first cap : Array Value) (w : World), (Instr.makeFunc fn first cap).run Try.prog w = .ok (.func fn first cap) w := fun _ _ _ _ => rfl
  go_enter Try.func15, Try.ntmps15
  go_wp2
  go_loopw [11] (fun v wr => ∃ (n : Nat) (x : Int), n ≤ l0.length ∧ v = .int .i64 (n : Int) ∧ Aside0 (wr.heap[w.heap.size]? = some (.cells #[.int .u32 x] 25 (0, 0))) ∧ Aside0 (Below w.heap.size w wr) ∧ Aside0 (crcAll (l0.drop n) x = crcAll l0 4294967295)) (fun v _ => l0.length - (intOf v).toNat)
  case atStart => exact ⟨0, 4294967295, by omega, rfl, ⟨by simpa using heap_alloc_new w _⟩, ⟨below_alloc (Below.refl _ _) _⟩, ⟨rfl⟩⟩
  case round =>
    obtain ⟨n, x, hn, rfl, HX, HW, HE⟩ := hrel
    have hc := cell_of_one HX.out
    have hf := free_of_one HX.out
    by_cases hlt : n < l0.length
    · obtain ⟨ad, ha, hcell⟩ := Kd.at_string (Kd.C_below HC.out HW.out) (n : Int) (by omega) (by omega)
      subst ha
      rw [Int.toNat_natCast] at hcell
      obtain ⟨s, hsv⟩ : ∃ s, s = rdOf ByteArray.empty l0 (n : Int) := ⟨_, rfl⟩
      rw [← hsv] at hcell
      have HE2 : Aside0 (crcAll (l0.drop (n + 1)) (crcFrom s.size s 0 x) = crcAll l0 4294967295) := ⟨by rw [← HE.out, crc_drop l0 n hlt, hsv]; rfl⟩
      have hsz : s.size ≤ 4611686018427387904 := by
        refine HS.out s ?_
        rw [hsv]
        simp only [rdOf, Int.toNat_natCast, List.getD_eq_getElem?_getD, List.getElem?_eq_getElem hlt]
        exact List.getElem_mem _
      clear hsv
      go_wp2
      go_loopw [17] (fun v wr2 => ∃ (m : Nat) (y : Int), m ≤ s.size ∧ v = .int .i64 (m : Int) ∧ Aside0 (wr2.heap[w.heap.size]? = some (.cells #[.int .u32 y] 25 (0, 0))) ∧ Aside0 (Below w.heap.size w wr2) ∧ Aside0 (crcFrom (s.size - m) s (m : Int) y = crcFrom s.size s 0 x)) (fun v _ => s.size - (intOf v).toNat)
      case atStart => exact ⟨0, x, by omega, rfl, HX, HW, ⟨rfl⟩⟩
      case round =>
        clear hc hf hcell
        obtain ⟨m, y, hm, rfl, HY, HV, HF⟩ := hrel
        by_cases hlm : m < s.size
        · have hx := bt_at s (m : Int)
          go_wp2_with (go_at_call 30; refine (crc_next _ y _ _ HY.out).mono ?_; rintro e w' ⟨rfl, HN, HG⟩)
          refine ⟨⟨m + 1, _, by omega, by go_num, HN, ⟨Below.grown HV.out HG.out HV.out.size (fun k hk => by injection hk with hk; omega)⟩, ⟨?_⟩⟩, by simp [intOf]; omega⟩
          rw [← HF.out, show s.size - m = (s.size - (m + 1)) + 1 by omega, crcFrom, ← hx (by simpa using hlm)]
          rfl
        · obtain rfl : m = s.size := by omega
          have HF' : y = crcFrom s.size s 0 x := by have := HF.out; rwa [Nat.sub_self, crcFrom] at this
          subst HF'
          go_wp2
          go_roundw
          case rel => exact ⟨n + 1, _, by omega, by go_num, HY, HV, HE2⟩
          case measure => simp [intOf]; omega
    · obtain rfl : n = l0.length := by omega
      go_wp2
      go_ret
      refine ⟨?_, HW.out⟩
      show Ending.returned (.int .u32 (Go.bits .xor .u32 IntKind.u32.max x)) = .returned (.int .u32 r)
      rw [← HR.out, ← HE.out, List.drop_length, crcAll]
      rfl

/-! ### earshotlaw05_awake: function 13 -/
def earshotlaw05_awake.f  : Option (Bool) := (crc_Sum.f (([(⟨#[49, 50, 51, 52, 53]⟩ : ByteArray), (⟨#[54, 55, 56, 57]⟩ : ByteArray)] : List ByteArray))).bind fun t104 => (some (t104 == 3421780262))
set_option maxHeartbeats 8000000 in
set_option maxRecDepth 100000 in
theorem earshotlaw05_awake.calls  (r : Bool) (w : World) (h : earshotlaw05_awake.f  = some r) :
    Calls Try.prog 13 #[] w fun e w' => e = .returned (.bool r) ∧ Below w.heap.size w w' := by
  have HB := Aside0.mk (Below.refl w.heap.size w)
  have H : ((crc_Sum.f (([(⟨#[49, 50, 51, 52, 53]⟩ : ByteArray), (⟨#[54, 55, 56, 57]⟩ : ByteArray)] : List ByteArray))).bind fun t104 => (some (t104 == 3421780262))) = some r := h
  clear h
  obtain ⟨y101, hy101⟩ : ∃ y_ : List ByteArray, y_ = (([(⟨#[49, 50, 51, 52, 53]⟩ : ByteArray), (⟨#[54, 55, 56, 57]⟩ : ByteArray)] : List ByteArray)) := ⟨_, rfl⟩
  replace H : ((crc_Sum.f y101).bind fun t104 => (some (t104 == 3421780262))) = some r := by first | (rw [hy101]; with_reducible exact H) | (have H2_ := (Option.bind_some _ _).symm.trans H; rw [hy101]; with_reducible exact H2_) | (have H2_ := (Option.bind_some _ _).symm.trans H; with_reducible exact H2_) | with_reducible exact H | (rw [hy101]; exact H) | exact H
  have Ny101 := Aside0.mk hy101
  clear hy101
  replace H := Option.bind_eq_some_iff.mp H
  obtain ⟨t104, A10, H⟩ := H
  replace H : (some (t104 == 3421780262)) = some r := H
  have A1 := Aside0.mk A10
  clear A10
  obtain rfl := Option.some.inj H
  go_enter Try.func13, Try.ntmps13
  go_wp2_with (first | ((with_reducible refine gate_dst (N := 1) rfl ?_); refine Kd.R_lit Kd.string _ 9 ?hg (N := 1) ?hd (xs := ([(⟨#[49, 50, 51, 52, 53]⟩ : ByteArray), (⟨#[54, 55, 56, 57]⟩ : ByteArray)] : List ByteArray)) (inner := [.string (⟨#[49, 50, 51, 52, 53]⟩ : ByteArray), .string (⟨#[54, 55, 56, 57]⟩ : ByteArray)]) (ok := fun _ => True) (okp := fun _ => True) ?hr ?hp (fun _ hk => hk) trivial (Below.refl _ _) (Nat.le_refl _) (by simp) ?_; (case hd => rfl); (case hg => first | rfl | exact wanted_on rfl rfl rfl (by first | assumption | rfl | (simp [*]; done))); (case hr => first | (go_simp; done) | (go_simp; rfl)); (case hp => exact (Reps.one (show Kd.M Kd.string _ _ _ (⟨#[49, 50, 51, 52, 53]⟩ : ByteArray) [.string (⟨#[49, 50, 51, 52, 53]⟩ : ByteArray)] from rfl) (Reps.one (show Kd.M Kd.string _ _ _ (⟨#[54, 55, 56, 57]⟩ : ByteArray) [.string (⟨#[54, 55, 56, 57]⟩ : ByteArray)] from rfl) (Reps.none _ _)))); intro v102 w2 ho3 hb hg_ hnew_; clear hg_ hnew_; (first | rw [← Ny101.out] at ho3 | (simp only [Int.reduceToNat] at ho3; rw [← Ny101.out] at ho3)); have n0_ := Aside0.mk (Kd.R_lower ho3 (below_size (by repeat (first | (with_reducible first | exact HB.out | apply below_alloc | apply pw_below_drewN | apply below_drew1) | exact HB.out)))); have n1_ := Aside0.mk (below_step (by repeat (first | (with_reducible first | exact HB.out | apply below_alloc | apply pw_below_drewN | apply below_drew1) | exact HB.out)) hb); clear HB; have HO103 := n0_; have HB := n1_; clear n0_ n1_; clear hb ho3; obtain ⟨Ao4, co4, eo4⟩ := Kd.R_slice HO103.out; subst eo4) | ((with_reducible refine gate_callee (f := 15) rfl ?_); refine goesL_ (some 2) rfl rfl Try.func15 (by kernel_rfl) rfl #[.slice Ao4 y101.length co4] rfl (by (try simp only [List.map_toArray, List.map_cons, List.map_nil]); first | done | rfl | (simp only [List.length_drop, List.length_take]; rfl)) ?_; (with_reducible refine (crc_Sum.calls _ _ y101 t104 _ ?side1 ?side2 A1.out).mono ?_); (case side1 => repeat (first | exact (Kd.R_reads' HO103.out).2.2 | (with_reducible refine Kd.C_alloc ?_ _) | (with_reducible refine Kd.C_drewN ?_ _) | (with_reducible refine Kd.C_drew ?_))); (case side2 => exact (Kd.R_reads' HO103.out).2.1); rintro e w5 ⟨rfl, hb⟩; refine ⟨_, rfl, ?_⟩; have n0_ := Aside0.mk (Kd.R_below (by (with_reducible repeat (first | apply Kd.R_alloc | apply Kd.R_drewN | apply Kd.R_drew)); (first | exact HO103.out | exact Kd.R_mono HO103.out (fun _ _ => trivial) | exact Kd.R_mono HO103.out (fun _ hk => hk.1))) hb); have n1_ := Aside0.mk (below_step (by repeat (first | (with_reducible first | exact HB.out | apply below_alloc | apply pw_below_drewN | apply below_drew1) | exact HB.out)) hb); clear HO103; clear HB; have HO103 := n0_; have HB := n1_; clear n0_ n1_; (try clear hb); (try clear hb2); (try clear hk); (try clear hi)))
  go_ret
  exact ⟨by first | rfl | (simp [errW_none, errW_some] <;> rfl) | (simp [*, errW_none, errW_some] <;> rfl), by repeat (first | (with_reducible first | exact HB.out | apply below_alloc | apply pw_below_drewN | apply below_drew1) | exact HB.out)⟩

/-! ### earshotlaw05_short: function 14 -/
def earshotlaw05_short.f (a0 : ByteArray) : Option (ByteArray) := if (a0.size : Int) > 60 then (if 0 ≤ 60 then (if 60 ≤ (a0.size : Int) then (some (a0.extract 0 60)) else (none)) else (none)) else (some a0)
set_option maxHeartbeats 8000000 in
set_option maxRecDepth 100000 in
theorem earshotlaw05_short.calls (a0 : ByteArray) (r : ByteArray) (w : World) (h : earshotlaw05_short.f a0 = some r) :
    Calls Try.prog 14 #[.string a0] w fun e w' => e = .returned (.string r) ∧ Drawn0 w w' := by
  have H : (if (a0.size : Int) > 60 then (if 0 ≤ 60 then (if 60 ≤ (a0.size : Int) then (some (a0.extract 0 60)) else (none)) else (none)) else (some a0)) = some r := h
  clear h
  by_cases c2 : (a0.size : Int) > 60
  · rw [if_pos c2] at H
    have c2b0 : decide (60 < (a0.size : Int)) = true := decide_eq_true c2
    have c2b1 : decide (60 < a0.size) = true := decide_eq_true (by omega)
    clear c2
    by_cases c3 : 0 ≤ 60
    · rw [if_pos c3] at H
      have c3b0 := eq_true c3
      have c3b1 : decide (0 ≤ 60) = true := decide_eq_true c3
      clear c3
      by_cases c4 : 60 ≤ (a0.size : Int)
      · rw [if_pos c4] at H
        have c4b0 := eq_true c4
        have c4b1 : decide (60 ≤ (a0.size : Int)) = true := decide_eq_true c4
        clear c4
        obtain rfl := Option.some.inj H
        go_enter Try.func14, Try.ntmps14
        go_wp2
        go_ret
        exact ⟨by first | rfl | (simp; done) | (simp [*]; done), by repeat (first | exact Drawn0.refl _ | apply Drawn0.step)⟩
      · rw [if_neg c4] at H
        exact absurd H (by simp)
    · rw [if_neg c3] at H
      exact absurd H (by simp)
  · rw [if_neg c2] at H
    have c2b0 : decide (60 < (a0.size : Int)) = false := decide_eq_false c2
    have c2b1 : decide (60 < a0.size) = false := decide_eq_false (by omega)
    clear c2
    obtain rfl := Option.some.inj H
    go_enter Try.func14, Try.ntmps14
    go_wp2
    go_ret
    exact ⟨by first | rfl | (simp; done) | (simp [*]; done), by repeat (first | exact Drawn0.refl _ | apply Drawn0.step)⟩

/-! ### crc_Seal: function 18 -/
def crcSumOf (s : ByteArray) : Int := Go.bits .xor .u32 4294967295 (crcAll [s] 4294967295)
def crcLe : Nat → Int → List Int
  | 0, _ => []
  | k + 1, n => n % 256 :: crcLe k (n / 256)
def crc_Seal.f (a0 : ByteArray) : Option (ByteArray) := if a0.size ≤ 1000000 then some (strOfNums (bytesOf a0 ++ crcLe 4 (crcSumOf a0))) else none
theorem crc_made (W : World) (cap : Nat) (hc : cap ≤ 1000004) : (W.alloc (.cells (madeCells #[.int .u8 0] cap) 5)).ownsRow W.heap.size 5 1 (.slice (some ⟨W.heap.size, 0, none⟩) 0 cap) 0 (nums .u8 []) := by
  refine ⟨rfl, .inr ⟨W.heap.size, cap, _, rfl, Nat.le_refl _, by simpa using heap_alloc_new W _, Nat.zero_le _, by simp only [maxLen]; omega, by simp [size_madeCells], rfl⟩⟩
theorem crc_str1 (W : World) (t : Nat) (s : ByteArray) : Kd.string.C (W.alloc (.cells #[.string s] t)) (some ⟨W.heap.size, 0, none⟩) [s].length [s] :=
  Kd.C_of_reads (d := ByteArray.empty) (h1 := fun _ => rfl) ⟨rfl, by simp, fun _ => ⟨_, rfl, fun j hj => by
    obtain rfl : j = 0 := by simpa using hj
    rw [add_plain]; exact cell_of_one (heap_alloc_new W (.cells #[.string s] t))⟩⟩
theorem crc_info8 : (Try.prog.info? 5).map (fun i => (i.zero, i.size, i.bytes)) = some (some (.int .u8 0), 1, 1) := by kernel_rfl
theorem crc_make (c : Int) (h0 : 0 ≤ c) (hc : c ≤ 1000004) (W : World) :
    (Instr.makeSlice 28 (.int .i64 0) (.int .i64 c)).run Try.prog W = .ok (.slice (some ⟨W.heap.size, 0, none⟩) 0 c.toNat) (W.alloc (.cells (madeCells #[.int .u8 0] c.toNat) 5)) := by
  obtain ⟨i, hi, hzz⟩ := Option.map_eq_some_iff.1 crc_info8
  simp only [Prod.mk.injEq] at hzz
  obtain ⟨hz, hs, hb⟩ := hzz
  have := run_make (P := Try.prog) W 28 5 i (.int .u8 0) Try.underlying28 hi hz .i64 .i64 0 c (Int.le_refl _) h0 (by rw [hb]; omega) (by omega)
  rw [hs, Nat.mul_one] at this
  exact this
set_option maxHeartbeats 8000000 in
theorem crc_Seal.calls (a0 : ByteArray) (r : ByteArray) (w : World) (h : crc_Seal.f a0 = some r) :
    Calls Try.prog 18 #[.string a0] w fun e w' => e = .returned (.string r) ∧ Below w.heap.size w w' := by
  have hs : a0.size ≤ 1000000 := by
    unfold crc_Seal.f at h
    split at h
    · assumption
    · cases h
  have HR : Aside0 (strOfNums (bytesOf a0 ++ crcLe 4 (crcSumOf a0)) = r) := by
    unfold crc_Seal.f at h
    rw [if_pos hs] at h
    exact ⟨Option.some.inj h⟩
  clear h
  have hsum : crc_Sum.f [a0] = some (crcSumOf a0) := by
    unfold crc_Sum.f
    rw [if_pos (by simp [crcOk]; omega)]
    rfl
  have HSUM := Aside0.mk hsum
  clear hsum
  have hmk := fun W => crc_make ((a0.size : Int) + 4) (by omega) (by omega) W
  rw [show ((a0.size : Int) + 4).toNat = a0.size + 4 by omega] at hmk
  go_enter Try.func18, Try.ntmps18
  go_wp2_with (first
    | (at_builtin; refine print_append_str (w0 := w) w.heap.size rfl (.tmp 9) _ 28 9 5 rfl Try.underlying28 Try.underlying9 crc_info8 (.slice (some ⟨w.heap.size, 0, none⟩) 0 (a0.size + 4)) [] a0 rfl rfl (crc_made w _ (by omega)) (below_alloc (Below.refl _ _) _) (by simp) (by simp; omega) ?_; intro v1 w1 ho hb hg)
    | (go_at_call 15; refine (crc_Sum.calls _ _ [a0] _ _ (crc_str1 _ _ _) (Nat.le_refl _) HSUM.out).mono ?_; rintro e w2 ⟨rfl, hb2⟩))
  have HO := Aside0.mk (pw_own_below (ho.alloc _) hb2)
  have HB := Aside0.mk (below_then (below_alloc hb (.cells #[.string a0] 9)) (by have := hb.size; simp; omega) hb2)
  clear ho hb hg hb2 hmk
  rw [List.nil_append] at HO
  have HN : Aside0 (crcLe 0 (crcSumOf a0) = crcLe 0 (crcSumOf a0)) := ⟨rfl⟩
  go_loopw [3, 4, 15] (fun v3 v4 v15 wr => ∃ (m : Nat) (xs ys : List Int) (n : Int), m ≤ 4 ∧ v15 = .int .i64 (m : Int) ∧ v4 = .int .u32 n ∧ Aside0 (wr.ownsRow w.heap.size 5 1 v3 xs.length (nums .u8 xs)) ∧ Aside0 (Below w.heap.size w wr) ∧ Aside0 (xs ++ crcLe (4 - m) n = bytesOf a0 ++ crcLe 4 (crcSumOf a0)) ∧ Aside0 (xs.length = a0.size + m)) (fun _ _ v _ => 4 - (intOf v).toNat)
  case atStart => exact ⟨0, bytesOf a0, [], _, by omega, rfl, rfl, HO, HB, ⟨rfl⟩, ⟨by rw [bytesOf_length]; rfl⟩⟩
  case round =>
    clear HO HB HN
    obtain ⟨m, xs, ys, n, hm, rfl, rfl, HO, HB, HE, HL⟩ := hrel
    by_cases hlt : m < 4
    · go_wp2_with (at_builtin; refine print_append_num (w0 := w) w.heap.size rfl (.tmp 17) (.tmp 20) 28 5 .u8 1 rfl Try.underlying28 crc_info8 (by decide) _ xs (n % 256) rfl rfl HO.out HB.out HB.out.size (by rw [HL.out]; omega) ?_; intro v1 w1 ho hb hg hat; have HO2 := Aside0.mk ho; have HB2 := Aside0.mk hb; clear ho hb hg hat)
      refine ⟨⟨m + 1, xs ++ [n % 256], [], n / 256, by omega, by go_num, rfl, HO2, HB2, ⟨?_⟩, ⟨by rw [List.length_append, HL.out]; rfl⟩⟩, by simp [intOf]; omega⟩
      rw [← HE.out, show 4 - m = (4 - (m + 1)) + 1 by omega, crcLe, List.append_assoc]
      rfl
    · obtain rfl : m = 4 := by omega
      have hst := own_string (P := Try.prog) (src := 28) (dst := 9) Try.underlying28 Try.underlying5 Try.underlying9 HO.out
      go_wp2
      go_ret
      refine ⟨?_, HB.out⟩
      rw [← HR.out, ← HE.out]
      simp [crcLe]

/-! ### crc_Open: function 20 -/
def crc_Open.f (a0 : ByteArray) : Option (ByteArray × Bool) := if (a0.size : Int) < 4 then (some ((⟨#[]⟩ : ByteArray), false)) else (if 0 ≤ (wrap64 ((a0.size : Int) - 4)) then (if (wrap64 ((a0.size : Int) - 4)) ≤ (a0.size : Int) then ((crc_Seal.f (a0.extract 0 ((wrap64 ((a0.size : Int) - 4)) : Int).toNat)).bind fun t105 => (if t105.toList = a0.toList then (some (a0.extract 0 ((wrap64 ((a0.size : Int) - 4)) : Int).toNat, true)) else (some ((⟨#[]⟩ : ByteArray), false)))) else (none)) else (none))
set_option maxHeartbeats 8000000 in
set_option maxRecDepth 100000 in
theorem crc_Open.calls (a0 : ByteArray) (r1 : ByteArray) (r2 : Bool) (w : World) (h : crc_Open.f a0 = some (r1, r2)) :
    Calls Try.prog 20 #[.string a0] w fun e w' => e = .returned (.tuple #[.string r1, .bool r2]) ∧ Below w.heap.size w w' := by
  have HB := Aside0.mk (Below.refl w.heap.size w)
  have H : (if (a0.size : Int) < 4 then (some ((⟨#[]⟩ : ByteArray), false)) else (if 0 ≤ (wrap64 ((a0.size : Int) - 4)) then (if (wrap64 ((a0.size : Int) - 4)) ≤ (a0.size : Int) then ((crc_Seal.f (a0.extract 0 ((wrap64 ((a0.size : Int) - 4)) : Int).toNat)).bind fun t105 => (if t105.toList = a0.toList then (some (a0.extract 0 ((wrap64 ((a0.size : Int) - 4)) : Int).toNat, true)) else (some ((⟨#[]⟩ : ByteArray), false)))) else (none)) else (none))) = some (r1, r2) := h
  clear h
  by_cases c2 : (a0.size : Int) < 4
  · rw [if_pos c2] at H
    have c2b0 : decide ((a0.size : Int) < 4) = true := decide_eq_true c2
    have c2b1 : decide (a0.size < 4) = true := decide_eq_true (by omega)
    clear c2
    simp only [Option.some.injEq, Prod.mk.injEq] at H
    obtain ⟨rfl, rfl⟩ := H
    go_enter Try.func20, Try.ntmps20
    go_wp2
    go_ret2
    exact ⟨by first | rfl | (simp [errW_none, errW_some] <;> rfl) | (simp [*, errW_none, errW_some] <;> rfl), by repeat (first | (with_reducible first | exact HB.out | apply below_alloc | apply pw_below_drewN | apply below_drew1) | exact HB.out)⟩
  · rw [if_neg c2] at H
    have c2b0 : decide ((a0.size : Int) < 4) = false := decide_eq_false c2
    have c2b1 : decide (a0.size < 4) = false := decide_eq_false (by omega)
    clear c2
    obtain ⟨ji3, hji3⟩ : ∃ j_ : Int, (wrap64 ((a0.size : Int) - 4)) = j_ := ⟨_, rfl⟩
    replace H : (if 0 ≤ (ji3) then (if (ji3) ≤ (a0.size : Int) then ((crc_Seal.f (a0.extract 0 ((ji3) : Int).toNat)).bind fun t105 => (if t105.toList = a0.toList then (some (a0.extract 0 ((ji3) : Int).toNat, true)) else (some ((⟨#[]⟩ : ByteArray), false)))) else (none)) else (none)) = some (r1, r2) := by first | (rw [hji3] at H; exact H) | (simp only [hji3] at H ⊢; exact H)
    have hji3w : (IntKind.i64.wrap ((a0.size : Int) - 4)) = ji3 := (i64_w _).trans hji3
    by_cases c4 : 0 ≤ (ji3)
    · rw [if_pos c4] at H
      have c4b0 := eq_true c4
      have c4b1 : decide (0 ≤ (ji3)) = true := decide_eq_true c4
      clear c4
      by_cases c5 : (ji3) ≤ (a0.size : Int)
      · rw [if_pos c5] at H
        have c5b0 := eq_true c5
        have c5b1 : decide ((ji3) ≤ (a0.size : Int)) = true := decide_eq_true c5
        clear c5
        replace H := Option.bind_eq_some_iff.mp H
        obtain ⟨t105, A60, H⟩ := H
        replace H : (if t105.toList = a0.toList then (some (a0.extract 0 ((ji3) : Int).toNat, true)) else (some ((⟨#[]⟩ : ByteArray), false))) = some (r1, r2) := H
        have A6 := Aside0.mk A60
        clear A60
        by_cases c7 : t105.toList = a0.toList
        · rw [if_pos c7] at H
          have c7b0 : (t105.toList == a0.toList) = true := beq_iff_eq.mpr c7
          have c7b1 : (t105.toList != a0.toList) = false := bne_eq_false_iff_eq.mpr c7
          clear c7
          simp only [Option.some.injEq, Prod.mk.injEq] at H
          obtain ⟨rfl, rfl⟩ := H
          go_enter Try.func20, Try.ntmps20
          go_wp2_with (first | ((with_reducible refine gate_callee (f := 18) rfl ?_); refine goesL_ (some 14) rfl rfl Try.func18 (by kernel_rfl) rfl #[.string (a0.extract 0 ((ji3) : Int).toNat)] rfl (by (try simp only [List.map_toArray, List.map_cons, List.map_nil]); first | done | (simp only [hji3]; rfl) | rfl | (simp only [List.length_drop, List.length_take]; rfl)) ?_; (with_reducible refine (crc_Seal.calls (a0.extract 0 ((ji3) : Int).toNat) t105 _ A6.out).mono ?_); rintro e w8 ⟨rfl, hb⟩; refine ⟨_, rfl, ?_⟩; have n0_ := Aside0.mk (below_step (by repeat (first | (with_reducible first | exact HB.out | apply below_alloc | apply pw_below_drewN | apply below_drew1) | exact HB.out)) hb); clear HB; have HB := n0_; clear n0_; (try clear hb); (try clear hb2); (try clear hk); (try clear hi)))
          go_ret2
          exact ⟨by first | rfl | (simp [errW_none, errW_some] <;> rfl) | (simp only [← hji3]; first | rfl | (simp [errW_none, errW_some] <;> rfl)) | (simp [*, errW_none, errW_some] <;> rfl), by repeat (first | (with_reducible first | exact HB.out | apply below_alloc | apply pw_below_drewN | apply below_drew1) | exact HB.out)⟩
        · rw [if_neg c7] at H
          have c7b0 : (t105.toList == a0.toList) = false := beq_eq_false_iff_ne.mpr c7
          have c7b1 : (t105.toList != a0.toList) = true := bne_iff_ne.mpr c7
          simp only [Option.some.injEq, Prod.mk.injEq] at H
          obtain ⟨rfl, rfl⟩ := H
          go_enter Try.func20, Try.ntmps20
          go_wp2_with (first | ((with_reducible refine gate_callee (f := 18) rfl ?_); refine goesL_ (some 14) rfl rfl Try.func18 (by kernel_rfl) rfl #[.string (a0.extract 0 ((ji3) : Int).toNat)] rfl (by (try simp only [List.map_toArray, List.map_cons, List.map_nil]); first | done | (simp only [hji3]; rfl) | rfl | (simp only [List.length_drop, List.length_take]; rfl)) ?_; (with_reducible refine (crc_Seal.calls (a0.extract 0 ((ji3) : Int).toNat) t105 _ A6.out).mono ?_); rintro e w9 ⟨rfl, hb⟩; refine ⟨_, rfl, ?_⟩; have n0_ := Aside0.mk (below_step (by repeat (first | (with_reducible first | exact HB.out | apply below_alloc | apply pw_below_drewN | apply below_drew1) | exact HB.out)) hb); clear HB; have HB := n0_; clear n0_; (try clear hb); (try clear hb2); (try clear hk); (try clear hi)))
          go_ret2
          exact ⟨by first | rfl | (simp [errW_none, errW_some] <;> rfl) | (simp only [← hji3]; first | rfl | (simp [errW_none, errW_some] <;> rfl)) | (simp [*, errW_none, errW_some] <;> rfl), by repeat (first | (with_reducible first | exact HB.out | apply below_alloc | apply pw_below_drewN | apply below_drew1) | exact HB.out)⟩
      · rw [if_neg c5] at H
        exact absurd H (by simp)
    · rw [if_neg c4] at H
      exact absurd H (by simp)

/-! ### earshotlaw05_CrcBack: function 6 -/
def earshotlaw05_CrcBack.f (a0 : ByteArray) : Option (Bool) := (earshotlaw05_awake.f).bind fun t106 => ((earshotlaw05_short.f a0).bind fun t107 => ((crc_Seal.f t107).bind fun t108 => ((crc_Open.f t108).bind fun bt109 => (if 0 ≤ (mn 3 (t108.size : Int)) then (if (mn 3 (t108.size : Int)) ≤ (t108.size : Int) then ((crc_Open.f (t108.extract 0 ((mn 3 (t108.size : Int)) : Int).toNat)).bind fun bt111 => (if t106 = true then (if bt109.2 = true then (if bt109.1.toList = t107.toList then (if (t108.size : Int) = (wrap64 ((t107.size : Int) + 4)) then (some (!bt111.2)) else (some false)) else (some false)) else (some false)) else (some false))) else (none)) else (none)))))
set_option maxHeartbeats 8000000 in
set_option maxRecDepth 100000 in
theorem earshotlaw05_CrcBack.calls (a0 : ByteArray) (r : Bool) (w : World) (h : earshotlaw05_CrcBack.f a0 = some r) :
    Calls Try.prog 6 #[.string a0] w fun e w' => e = .returned (.bool r) ∧ Below w.heap.size w w' := by
  have HB := Aside0.mk (Below.refl w.heap.size w)
  have H : ((earshotlaw05_awake.f).bind fun t106 => ((earshotlaw05_short.f a0).bind fun t107 => ((crc_Seal.f t107).bind fun t108 => ((crc_Open.f t108).bind fun bt109 => (if 0 ≤ (mn 3 (t108.size : Int)) then (if (mn 3 (t108.size : Int)) ≤ (t108.size : Int) then ((crc_Open.f (t108.extract 0 ((mn 3 (t108.size : Int)) : Int).toNat)).bind fun bt111 => (if t106 = true then (if bt109.2 = true then (if bt109.1.toList = t107.toList then (if (t108.size : Int) = (wrap64 ((t107.size : Int) + 4)) then (some (!bt111.2)) else (some false)) else (some false)) else (some false)) else (some false))) else (none)) else (none)))))) = some r := h
  clear h
  replace H := Option.bind_eq_some_iff.mp H
  obtain ⟨t106, A20, H⟩ := H
  replace H : ((earshotlaw05_short.f a0).bind fun t107 => ((crc_Seal.f t107).bind fun t108 => ((crc_Open.f t108).bind fun bt109 => (if 0 ≤ (mn 3 (t108.size : Int)) then (if (mn 3 (t108.size : Int)) ≤ (t108.size : Int) then ((crc_Open.f (t108.extract 0 ((mn 3 (t108.size : Int)) : Int).toNat)).bind fun bt111 => (if t106 = true then (if bt109.2 = true then (if bt109.1.toList = t107.toList then (if (t108.size : Int) = (wrap64 ((t107.size : Int) + 4)) then (some (!bt111.2)) else (some false)) else (some false)) else (some false)) else (some false))) else (none)) else (none))))) = some r := H
  have A2 := Aside0.mk A20
  clear A20
  replace H := Option.bind_eq_some_iff.mp H
  obtain ⟨t107, A30, H⟩ := H
  replace H : ((crc_Seal.f t107).bind fun t108 => ((crc_Open.f t108).bind fun bt109 => (if 0 ≤ (mn 3 (t108.size : Int)) then (if (mn 3 (t108.size : Int)) ≤ (t108.size : Int) then ((crc_Open.f (t108.extract 0 ((mn 3 (t108.size : Int)) : Int).toNat)).bind fun bt111 => (if t106 = true then (if bt109.2 = true then (if bt109.1.toList = t107.toList then (if (t108.size : Int) = (wrap64 ((t107.size : Int) + 4)) then (some (!bt111.2)) else (some false)) else (some false)) else (some false)) else (some false))) else (none)) else (none)))) = some r := H
  have A3 := Aside0.mk A30
  clear A30
  replace H := Option.bind_eq_some_iff.mp H
  obtain ⟨t108, A40, H⟩ := H
  replace H : ((crc_Open.f t108).bind fun bt109 => (if 0 ≤ (mn 3 (t108.size : Int)) then (if (mn 3 (t108.size : Int)) ≤ (t108.size : Int) then ((crc_Open.f (t108.extract 0 ((mn 3 (t108.size : Int)) : Int).toNat)).bind fun bt111 => (if t106 = true then (if bt109.2 = true then (if bt109.1.toList = t107.toList then (if (t108.size : Int) = (wrap64 ((t107.size : Int) + 4)) then (some (!bt111.2)) else (some false)) else (some false)) else (some false)) else (some false))) else (none)) else (none))) = some r := H
  have A4 := Aside0.mk A40
  clear A40
  replace H := Option.bind_eq_some_iff.mp H
  obtain ⟨⟨t109, t110⟩, A50, H⟩ := H
  replace H : (if 0 ≤ (mn 3 (t108.size : Int)) then (if (mn 3 (t108.size : Int)) ≤ (t108.size : Int) then ((crc_Open.f (t108.extract 0 ((mn 3 (t108.size : Int)) : Int).toNat)).bind fun bt111 => (if t106 = true then (if t110 = true then (if t109.toList = t107.toList then (if (t108.size : Int) = (wrap64 ((t107.size : Int) + 4)) then (some (!bt111.2)) else (some false)) else (some false)) else (some false)) else (some false))) else (none)) else (none)) = some r := H
  have A5 := Aside0.mk A50
  clear A50
  obtain ⟨ji6, hji6⟩ : ∃ j_ : Int, (mn 3 (t108.size : Int)) = j_ := ⟨_, rfl⟩
  replace H : (if 0 ≤ (ji6) then (if (ji6) ≤ (t108.size : Int) then ((crc_Open.f (t108.extract 0 ((ji6) : Int).toNat)).bind fun bt111 => (if t106 = true then (if t110 = true then (if t109.toList = t107.toList then (if (t108.size : Int) = (wrap64 ((t107.size : Int) + 4)) then (some (!bt111.2)) else (some false)) else (some false)) else (some false)) else (some false))) else (none)) else (none)) = some r := by first | (rw [hji6] at H; exact H) | (simp only [hji6] at H ⊢; exact H)
  (try rw [hji6] at A2)
  (try rw [hji6] at A3)
  (try rw [hji6] at A4)
  (try rw [hji6] at A5)
  (try (have hji6h : ji6 ≤ 3 := by (rw [← hji6]; unfold mn; (repeat' split) <;> omega)))
  (try (have hji6g : ji6 ≤ 64 := by omega))
  (try (have hji6l : 0 ≤ ji6 := by (rw [← hji6]; unfold mn; (repeat' split) <;> omega)))
  (try (have hji6m : 0 ≤ ji6 := by omega))
  have hji6_ : (if (t108.size : Int) < 3 then (t108.size : Int) else 3) = ji6 := hji6
  by_cases c7 : 0 ≤ (ji6)
  · rw [if_pos c7] at H
    have c7b0 := eq_true c7
    have c7b1 : decide (0 ≤ (ji6)) = true := decide_eq_true c7
    clear c7
    by_cases c8 : (ji6) ≤ (t108.size : Int)
    · rw [if_pos c8] at H
      have c8b0 := eq_true c8
      have c8b1 : decide ((ji6) ≤ (t108.size : Int)) = true := decide_eq_true c8
      clear c8
      replace H := Option.bind_eq_some_iff.mp H
      obtain ⟨⟨t111, t112⟩, A90, H⟩ := H
      replace H : (if t106 = true then (if t110 = true then (if t109.toList = t107.toList then (if (t108.size : Int) = (wrap64 ((t107.size : Int) + 4)) then (some (!t112)) else (some false)) else (some false)) else (some false)) else (some false)) = some r := H
      have A9 := Aside0.mk A90
      clear A90
      by_cases c10 : t106 = true
      · subst c10
        have H1 : (if t110 = true then (if t109.toList = t107.toList then (if (t108.size : Int) = (wrap64 ((t107.size : Int) + 4)) then (some (!t112)) else (some false)) else (some false)) else (some false)) = some r := by rw [if_pos rfl] at H; exact H
        clear H
        have H := H1
        clear H1
        by_cases c11 : t110 = true
        · subst c11
          have H1 : (if t109.toList = t107.toList then (if (t108.size : Int) = (wrap64 ((t107.size : Int) + 4)) then (some (!t112)) else (some false)) else (some false)) = some r := by rw [if_pos rfl] at H; exact H
          clear H
          have H := H1
          clear H1
          by_cases c12 : t109.toList = t107.toList
          · rw [if_pos c12] at H
            have c12b0 : (t109.toList == t107.toList) = true := beq_iff_eq.mpr c12
            have c12b1 : (t109.toList != t107.toList) = false := bne_eq_false_iff_eq.mpr c12
            clear c12
            by_cases c13 : (t108.size : Int) = (wrap64 ((t107.size : Int) + 4))
            · rw [if_pos c13] at H
              have c13b0 : ((t108.size : Int) == (wrap64 ((t107.size : Int) + 4))) = true := beq_iff_eq.mpr c13
              have c13b1 : ((t108.size : Int) != (wrap64 ((t107.size : Int) + 4))) = false := bne_eq_false_iff_eq.mpr c13
              clear c13
              obtain rfl := Option.some.inj H
              go_enter Try.func6, Try.ntmps6
              go_wp2_with (first | ((with_reducible refine gate_callee (f := 13) rfl ?_); refine goesL_ (some 9) rfl rfl Try.func13 (by kernel_rfl) rfl #[] rfl (by (try simp only [List.map_toArray, List.map_cons, List.map_nil]); first | done | rfl | (simp only [List.length_drop, List.length_take]; rfl)) ?_; (with_reducible refine (earshotlaw05_awake.calls  true _ A2.out).mono ?_); rintro e w14 ⟨rfl, hb⟩; refine ⟨_, rfl, ?_⟩; have n0_ := Aside0.mk (below_step (by repeat (first | (with_reducible first | exact HB.out | apply below_alloc | apply pw_below_drewN | apply below_drew1) | exact HB.out)) hb); clear HB; have HB := n0_; clear n0_; (try clear hb); (try clear hb2); (try clear hk); (try clear hi)) | ((with_reducible refine gate_callee (f := 14) rfl ?_); refine goesL_ (some 11) rfl rfl Try.func14 (by kernel_rfl) rfl #[.string a0] rfl (by (try simp only [List.map_toArray, List.map_cons, List.map_nil]); first | done | rfl | (simp only [List.length_drop, List.length_take]; rfl)) ?_; (with_reducible refine (earshotlaw05_short.calls a0 t107 _ A3.out).mono ?_); rintro e w' ⟨rfl, ⟨nd, rfl⟩⟩; refine ⟨_, rfl, ?_⟩) | ((with_reducible refine gate_callee (f := 18) rfl ?_); refine goesL_ (some 13) rfl rfl Try.func18 (by kernel_rfl) rfl #[.string t107] rfl (by (try simp only [List.map_toArray, List.map_cons, List.map_nil]); first | done | rfl | (simp only [List.length_drop, List.length_take]; rfl)) ?_; (with_reducible refine (crc_Seal.calls t107 t108 _ A4.out).mono ?_); rintro e w15 ⟨rfl, hb⟩; refine ⟨_, rfl, ?_⟩; have n0_ := Aside0.mk (below_step (by repeat (first | (with_reducible first | exact HB.out | apply below_alloc | apply pw_below_drewN | apply below_drew1) | exact HB.out)) hb); clear HB; have HB := n0_; clear n0_; (try clear hb); (try clear hb2); (try clear hk); (try clear hi)) | ((with_reducible refine gate_callee (f := 20) rfl ?_); refine goesL_ (some 16) rfl rfl Try.func20 (by kernel_rfl) rfl #[.string t108] rfl (by (try simp only [List.map_toArray, List.map_cons, List.map_nil]); first | done | rfl | (simp only [List.length_drop, List.length_take]; rfl)) ?_; (with_reducible refine (crc_Open.calls t108 t109 true _ A5.out).mono ?_); rintro e w16 ⟨rfl, hb⟩; refine ⟨_, rfl, ?_⟩; have n0_ := Aside0.mk (below_step (by repeat (first | (with_reducible first | exact HB.out | apply below_alloc | apply pw_below_drewN | apply below_drew1) | exact HB.out)) hb); clear HB; have HB := n0_; clear n0_; (try clear hb); (try clear hb2); (try clear hk); (try clear hi)) | ((with_reducible refine gate_callee (f := 20) rfl ?_); refine goesL_ (some 25) rfl rfl Try.func20 (by kernel_rfl) rfl #[.string (t108.extract 0 ((ji6) : Int).toNat)] rfl (by (try simp only [List.map_toArray, List.map_cons, List.map_nil]); first | done | (simp only [hji6]; rfl) | rfl | (simp only [List.length_drop, List.length_take]; rfl)) ?_; (with_reducible refine (crc_Open.calls (t108.extract 0 ((ji6) : Int).toNat) t111 t112 _ A9.out).mono ?_); rintro e w17 ⟨rfl, hb⟩; refine ⟨_, rfl, ?_⟩; have n0_ := Aside0.mk (below_step (by repeat (first | (with_reducible first | exact HB.out | apply below_alloc | apply pw_below_drewN | apply below_drew1) | exact HB.out)) hb); clear HB; have HB := n0_; clear n0_; (try clear hb); (try clear hb2); (try clear hk); (try clear hi)))
              go_ret
              exact ⟨by first | rfl | (simp [errW_none, errW_some] <;> rfl) | (simp only [← hji6]; first | rfl | (simp [errW_none, errW_some] <;> rfl)) | (simp [*, errW_none, errW_some] <;> rfl), by repeat (first | (with_reducible first | exact HB.out | apply below_alloc | apply pw_below_drewN | apply below_drew1) | exact HB.out)⟩
            · rw [if_neg c13] at H
              have c13b0 : ((t108.size : Int) == (wrap64 ((t107.size : Int) + 4))) = false := beq_eq_false_iff_ne.mpr c13
              have c13b1 : ((t108.size : Int) != (wrap64 ((t107.size : Int) + 4))) = true := bne_iff_ne.mpr c13
              obtain rfl := Option.some.inj H
              go_enter Try.func6, Try.ntmps6
              go_wp2_with (first | ((with_reducible refine gate_callee (f := 13) rfl ?_); refine goesL_ (some 9) rfl rfl Try.func13 (by kernel_rfl) rfl #[] rfl (by (try simp only [List.map_toArray, List.map_cons, List.map_nil]); first | done | rfl | (simp only [List.length_drop, List.length_take]; rfl)) ?_; (with_reducible refine (earshotlaw05_awake.calls  true _ A2.out).mono ?_); rintro e w18 ⟨rfl, hb⟩; refine ⟨_, rfl, ?_⟩; have n0_ := Aside0.mk (below_step (by repeat (first | (with_reducible first | exact HB.out | apply below_alloc | apply pw_below_drewN | apply below_drew1) | exact HB.out)) hb); clear HB; have HB := n0_; clear n0_; (try clear hb); (try clear hb2); (try clear hk); (try clear hi)) | ((with_reducible refine gate_callee (f := 14) rfl ?_); refine goesL_ (some 11) rfl rfl Try.func14 (by kernel_rfl) rfl #[.string a0] rfl (by (try simp only [List.map_toArray, List.map_cons, List.map_nil]); first | done | rfl | (simp only [List.length_drop, List.length_take]; rfl)) ?_; (with_reducible refine (earshotlaw05_short.calls a0 t107 _ A3.out).mono ?_); rintro e w' ⟨rfl, ⟨nd, rfl⟩⟩; refine ⟨_, rfl, ?_⟩) | ((with_reducible refine gate_callee (f := 18) rfl ?_); refine goesL_ (some 13) rfl rfl Try.func18 (by kernel_rfl) rfl #[.string t107] rfl (by (try simp only [List.map_toArray, List.map_cons, List.map_nil]); first | done | rfl | (simp only [List.length_drop, List.length_take]; rfl)) ?_; (with_reducible refine (crc_Seal.calls t107 t108 _ A4.out).mono ?_); rintro e w19 ⟨rfl, hb⟩; refine ⟨_, rfl, ?_⟩; have n0_ := Aside0.mk (below_step (by repeat (first | (with_reducible first | exact HB.out | apply below_alloc | apply pw_below_drewN | apply below_drew1) | exact HB.out)) hb); clear HB; have HB := n0_; clear n0_; (try clear hb); (try clear hb2); (try clear hk); (try clear hi)) | ((with_reducible refine gate_callee (f := 20) rfl ?_); refine goesL_ (some 16) rfl rfl Try.func20 (by kernel_rfl) rfl #[.string t108] rfl (by (try simp only [List.map_toArray, List.map_cons, List.map_nil]); first | done | rfl | (simp only [List.length_drop, List.length_take]; rfl)) ?_; (with_reducible refine (crc_Open.calls t108 t109 true _ A5.out).mono ?_); rintro e w20 ⟨rfl, hb⟩; refine ⟨_, rfl, ?_⟩; have n0_ := Aside0.mk (below_step (by repeat (first | (with_reducible first | exact HB.out | apply below_alloc | apply pw_below_drewN | apply below_drew1) | exact HB.out)) hb); clear HB; have HB := n0_; clear n0_; (try clear hb); (try clear hb2); (try clear hk); (try clear hi)) | ((with_reducible refine gate_callee (f := 20) rfl ?_); refine goesL_ (some 25) rfl rfl Try.func20 (by kernel_rfl) rfl #[.string (t108.extract 0 ((ji6) : Int).toNat)] rfl (by (try simp only [List.map_toArray, List.map_cons, List.map_nil]); first | done | (simp only [hji6]; rfl) | rfl | (simp only [List.length_drop, List.length_take]; rfl)) ?_; (with_reducible refine (crc_Open.calls (t108.extract 0 ((ji6) : Int).toNat) t111 t112 _ A9.out).mono ?_); rintro e w21 ⟨rfl, hb⟩; refine ⟨_, rfl, ?_⟩; have n0_ := Aside0.mk (below_step (by repeat (first | (with_reducible first | exact HB.out | apply below_alloc | apply pw_below_drewN | apply below_drew1) | exact HB.out)) hb); clear HB; have HB := n0_; clear n0_; (try clear hb); (try clear hb2); (try clear hk); (try clear hi)))
              go_ret
              exact ⟨by first | rfl | (simp [errW_none, errW_some] <;> rfl) | (simp only [← hji6]; first | rfl | (simp [errW_none, errW_some] <;> rfl)) | (simp [*, errW_none, errW_some] <;> rfl), by repeat (first | (with_reducible first | exact HB.out | apply below_alloc | apply pw_below_drewN | apply below_drew1) | exact HB.out)⟩
          · rw [if_neg c12] at H
            have c12b0 : (t109.toList == t107.toList) = false := beq_eq_false_iff_ne.mpr c12
            have c12b1 : (t109.toList != t107.toList) = true := bne_iff_ne.mpr c12
            obtain rfl := Option.some.inj H
            go_enter Try.func6, Try.ntmps6
            go_wp2_with (first | ((with_reducible refine gate_callee (f := 13) rfl ?_); refine goesL_ (some 9) rfl rfl Try.func13 (by kernel_rfl) rfl #[] rfl (by (try simp only [List.map_toArray, List.map_cons, List.map_nil]); first | done | rfl | (simp only [List.length_drop, List.length_take]; rfl)) ?_; (with_reducible refine (earshotlaw05_awake.calls  true _ A2.out).mono ?_); rintro e w22 ⟨rfl, hb⟩; refine ⟨_, rfl, ?_⟩; have n0_ := Aside0.mk (below_step (by repeat (first | (with_reducible first | exact HB.out | apply below_alloc | apply pw_below_drewN | apply below_drew1) | exact HB.out)) hb); clear HB; have HB := n0_; clear n0_; (try clear hb); (try clear hb2); (try clear hk); (try clear hi)) | ((with_reducible refine gate_callee (f := 14) rfl ?_); refine goesL_ (some 11) rfl rfl Try.func14 (by kernel_rfl) rfl #[.string a0] rfl (by (try simp only [List.map_toArray, List.map_cons, List.map_nil]); first | done | rfl | (simp only [List.length_drop, List.length_take]; rfl)) ?_; (with_reducible refine (earshotlaw05_short.calls a0 t107 _ A3.out).mono ?_); rintro e w' ⟨rfl, ⟨nd, rfl⟩⟩; refine ⟨_, rfl, ?_⟩) | ((with_reducible refine gate_callee (f := 18) rfl ?_); refine goesL_ (some 13) rfl rfl Try.func18 (by kernel_rfl) rfl #[.string t107] rfl (by (try simp only [List.map_toArray, List.map_cons, List.map_nil]); first | done | rfl | (simp only [List.length_drop, List.length_take]; rfl)) ?_; (with_reducible refine (crc_Seal.calls t107 t108 _ A4.out).mono ?_); rintro e w23 ⟨rfl, hb⟩; refine ⟨_, rfl, ?_⟩; have n0_ := Aside0.mk (below_step (by repeat (first | (with_reducible first | exact HB.out | apply below_alloc | apply pw_below_drewN | apply below_drew1) | exact HB.out)) hb); clear HB; have HB := n0_; clear n0_; (try clear hb); (try clear hb2); (try clear hk); (try clear hi)) | ((with_reducible refine gate_callee (f := 20) rfl ?_); refine goesL_ (some 16) rfl rfl Try.func20 (by kernel_rfl) rfl #[.string t108] rfl (by (try simp only [List.map_toArray, List.map_cons, List.map_nil]); first | done | rfl | (simp only [List.length_drop, List.length_take]; rfl)) ?_; (with_reducible refine (crc_Open.calls t108 t109 true _ A5.out).mono ?_); rintro e w24 ⟨rfl, hb⟩; refine ⟨_, rfl, ?_⟩; have n0_ := Aside0.mk (below_step (by repeat (first | (with_reducible first | exact HB.out | apply below_alloc | apply pw_below_drewN | apply below_drew1) | exact HB.out)) hb); clear HB; have HB := n0_; clear n0_; (try clear hb); (try clear hb2); (try clear hk); (try clear hi)) | ((with_reducible refine gate_callee (f := 20) rfl ?_); refine goesL_ (some 25) rfl rfl Try.func20 (by kernel_rfl) rfl #[.string (t108.extract 0 ((ji6) : Int).toNat)] rfl (by (try simp only [List.map_toArray, List.map_cons, List.map_nil]); first | done | (simp only [hji6]; rfl) | rfl | (simp only [List.length_drop, List.length_take]; rfl)) ?_; (with_reducible refine (crc_Open.calls (t108.extract 0 ((ji6) : Int).toNat) t111 t112 _ A9.out).mono ?_); rintro e w25 ⟨rfl, hb⟩; refine ⟨_, rfl, ?_⟩; have n0_ := Aside0.mk (below_step (by repeat (first | (with_reducible first | exact HB.out | apply below_alloc | apply pw_below_drewN | apply below_drew1) | exact HB.out)) hb); clear HB; have HB := n0_; clear n0_; (try clear hb); (try clear hb2); (try clear hk); (try clear hi)))
            go_ret
            exact ⟨by first | rfl | (simp [errW_none, errW_some] <;> rfl) | (simp only [← hji6]; first | rfl | (simp [errW_none, errW_some] <;> rfl)) | (simp [*, errW_none, errW_some] <;> rfl), by repeat (first | (with_reducible first | exact HB.out | apply below_alloc | apply pw_below_drewN | apply below_drew1) | exact HB.out)⟩
        · replace c11 := Bool.eq_false_iff.mpr c11
          subst c11
          have H1 : (some false) = some r := by rw [if_neg (show ¬ (false = true) by decide)] at H; exact H
          clear H
          have H := H1
          clear H1
          obtain rfl := Option.some.inj H
          go_enter Try.func6, Try.ntmps6
          go_wp2_with (first | ((with_reducible refine gate_callee (f := 13) rfl ?_); refine goesL_ (some 9) rfl rfl Try.func13 (by kernel_rfl) rfl #[] rfl (by (try simp only [List.map_toArray, List.map_cons, List.map_nil]); first | done | rfl | (simp only [List.length_drop, List.length_take]; rfl)) ?_; (with_reducible refine (earshotlaw05_awake.calls  true _ A2.out).mono ?_); rintro e w26 ⟨rfl, hb⟩; refine ⟨_, rfl, ?_⟩; have n0_ := Aside0.mk (below_step (by repeat (first | (with_reducible first | exact HB.out | apply below_alloc | apply pw_below_drewN | apply below_drew1) | exact HB.out)) hb); clear HB; have HB := n0_; clear n0_; (try clear hb); (try clear hb2); (try clear hk); (try clear hi)) | ((with_reducible refine gate_callee (f := 14) rfl ?_); refine goesL_ (some 11) rfl rfl Try.func14 (by kernel_rfl) rfl #[.string a0] rfl (by (try simp only [List.map_toArray, List.map_cons, List.map_nil]); first | done | rfl | (simp only [List.length_drop, List.length_take]; rfl)) ?_; (with_reducible refine (earshotlaw05_short.calls a0 t107 _ A3.out).mono ?_); rintro e w' ⟨rfl, ⟨nd, rfl⟩⟩; refine ⟨_, rfl, ?_⟩) | ((with_reducible refine gate_callee (f := 18) rfl ?_); refine goesL_ (some 13) rfl rfl Try.func18 (by kernel_rfl) rfl #[.string t107] rfl (by (try simp only [List.map_toArray, List.map_cons, List.map_nil]); first | done | rfl | (simp only [List.length_drop, List.length_take]; rfl)) ?_; (with_reducible refine (crc_Seal.calls t107 t108 _ A4.out).mono ?_); rintro e w27 ⟨rfl, hb⟩; refine ⟨_, rfl, ?_⟩; have n0_ := Aside0.mk (below_step (by repeat (first | (with_reducible first | exact HB.out | apply below_alloc | apply pw_below_drewN | apply below_drew1) | exact HB.out)) hb); clear HB; have HB := n0_; clear n0_; (try clear hb); (try clear hb2); (try clear hk); (try clear hi)) | ((with_reducible refine gate_callee (f := 20) rfl ?_); refine goesL_ (some 16) rfl rfl Try.func20 (by kernel_rfl) rfl #[.string t108] rfl (by (try simp only [List.map_toArray, List.map_cons, List.map_nil]); first | done | rfl | (simp only [List.length_drop, List.length_take]; rfl)) ?_; (with_reducible refine (crc_Open.calls t108 t109 false _ A5.out).mono ?_); rintro e w28 ⟨rfl, hb⟩; refine ⟨_, rfl, ?_⟩; have n0_ := Aside0.mk (below_step (by repeat (first | (with_reducible first | exact HB.out | apply below_alloc | apply pw_below_drewN | apply below_drew1) | exact HB.out)) hb); clear HB; have HB := n0_; clear n0_; (try clear hb); (try clear hb2); (try clear hk); (try clear hi)) | ((with_reducible refine gate_callee (f := 20) rfl ?_); refine goesL_ (some 25) rfl rfl Try.func20 (by kernel_rfl) rfl #[.string (t108.extract 0 ((ji6) : Int).toNat)] rfl (by (try simp only [List.map_toArray, List.map_cons, List.map_nil]); first | done | (simp only [hji6]; rfl) | rfl | (simp only [List.length_drop, List.length_take]; rfl)) ?_; (with_reducible refine (crc_Open.calls (t108.extract 0 ((ji6) : Int).toNat) t111 t112 _ A9.out).mono ?_); rintro e w29 ⟨rfl, hb⟩; refine ⟨_, rfl, ?_⟩; have n0_ := Aside0.mk (below_step (by repeat (first | (with_reducible first | exact HB.out | apply below_alloc | apply pw_below_drewN | apply below_drew1) | exact HB.out)) hb); clear HB; have HB := n0_; clear n0_; (try clear hb); (try clear hb2); (try clear hk); (try clear hi)))
          go_ret
          exact ⟨by first | rfl | (simp [errW_none, errW_some] <;> rfl) | (simp only [← hji6]; first | rfl | (simp [errW_none, errW_some] <;> rfl)) | (simp [*, errW_none, errW_some] <;> rfl), by repeat (first | (with_reducible first | exact HB.out | apply below_alloc | apply pw_below_drewN | apply below_drew1) | exact HB.out)⟩
      · replace c10 := Bool.eq_false_iff.mpr c10
        subst c10
        have H1 : (some false) = some r := by rw [if_neg (show ¬ (false = true) by decide)] at H; exact H
        clear H
        have H := H1
        clear H1
        obtain rfl := Option.some.inj H
        go_enter Try.func6, Try.ntmps6
        go_wp2_with (first | ((with_reducible refine gate_callee (f := 13) rfl ?_); refine goesL_ (some 9) rfl rfl Try.func13 (by kernel_rfl) rfl #[] rfl (by (try simp only [List.map_toArray, List.map_cons, List.map_nil]); first | done | rfl | (simp only [List.length_drop, List.length_take]; rfl)) ?_; (with_reducible refine (earshotlaw05_awake.calls  false _ A2.out).mono ?_); rintro e w30 ⟨rfl, hb⟩; refine ⟨_, rfl, ?_⟩; have n0_ := Aside0.mk (below_step (by repeat (first | (with_reducible first | exact HB.out | apply below_alloc | apply pw_below_drewN | apply below_drew1) | exact HB.out)) hb); clear HB; have HB := n0_; clear n0_; (try clear hb); (try clear hb2); (try clear hk); (try clear hi)) | ((with_reducible refine gate_callee (f := 14) rfl ?_); refine goesL_ (some 11) rfl rfl Try.func14 (by kernel_rfl) rfl #[.string a0] rfl (by (try simp only [List.map_toArray, List.map_cons, List.map_nil]); first | done | rfl | (simp only [List.length_drop, List.length_take]; rfl)) ?_; (with_reducible refine (earshotlaw05_short.calls a0 t107 _ A3.out).mono ?_); rintro e w' ⟨rfl, ⟨nd, rfl⟩⟩; refine ⟨_, rfl, ?_⟩) | ((with_reducible refine gate_callee (f := 18) rfl ?_); refine goesL_ (some 13) rfl rfl Try.func18 (by kernel_rfl) rfl #[.string t107] rfl (by (try simp only [List.map_toArray, List.map_cons, List.map_nil]); first | done | rfl | (simp only [List.length_drop, List.length_take]; rfl)) ?_; (with_reducible refine (crc_Seal.calls t107 t108 _ A4.out).mono ?_); rintro e w31 ⟨rfl, hb⟩; refine ⟨_, rfl, ?_⟩; have n0_ := Aside0.mk (below_step (by repeat (first | (with_reducible first | exact HB.out | apply below_alloc | apply pw_below_drewN | apply below_drew1) | exact HB.out)) hb); clear HB; have HB := n0_; clear n0_; (try clear hb); (try clear hb2); (try clear hk); (try clear hi)) | ((with_reducible refine gate_callee (f := 20) rfl ?_); refine goesL_ (some 16) rfl rfl Try.func20 (by kernel_rfl) rfl #[.string t108] rfl (by (try simp only [List.map_toArray, List.map_cons, List.map_nil]); first | done | rfl | (simp only [List.length_drop, List.length_take]; rfl)) ?_; (with_reducible refine (crc_Open.calls t108 t109 t110 _ A5.out).mono ?_); rintro e w32 ⟨rfl, hb⟩; refine ⟨_, rfl, ?_⟩; have n0_ := Aside0.mk (below_step (by repeat (first | (with_reducible first | exact HB.out | apply below_alloc | apply pw_below_drewN | apply below_drew1) | exact HB.out)) hb); clear HB; have HB := n0_; clear n0_; (try clear hb); (try clear hb2); (try clear hk); (try clear hi)) | ((with_reducible refine gate_callee (f := 20) rfl ?_); refine goesL_ (some 25) rfl rfl Try.func20 (by kernel_rfl) rfl #[.string (t108.extract 0 ((ji6) : Int).toNat)] rfl (by (try simp only [List.map_toArray, List.map_cons, List.map_nil]); first | done | (simp only [hji6]; rfl) | rfl | (simp only [List.length_drop, List.length_take]; rfl)) ?_; (with_reducible refine (crc_Open.calls (t108.extract 0 ((ji6) : Int).toNat) t111 t112 _ A9.out).mono ?_); rintro e w33 ⟨rfl, hb⟩; refine ⟨_, rfl, ?_⟩; have n0_ := Aside0.mk (below_step (by repeat (first | (with_reducible first | exact HB.out | apply below_alloc | apply pw_below_drewN | apply below_drew1) | exact HB.out)) hb); clear HB; have HB := n0_; clear n0_; (try clear hb); (try clear hb2); (try clear hk); (try clear hi)))
        go_ret
        exact ⟨by first | rfl | (simp [errW_none, errW_some] <;> rfl) | (simp only [← hji6]; first | rfl | (simp [errW_none, errW_some] <;> rfl)) | (simp [*, errW_none, errW_some] <;> rfl), by repeat (first | (with_reducible first | exact HB.out | apply below_alloc | apply pw_below_drewN | apply below_drew1) | exact HB.out)⟩
    · rw [if_neg c8] at H
      exact absurd H (by simp)
  · rw [if_neg c7] at H
    exact absurd H (by simp)

/-- THE ONE PURE STATEMENT of earshotlaw05_CrcBack: yours. -/
def earshotlaw05_CrcBack.Pure : Prop := ∀ (a0 : ByteArray), a0.size ≤ 140737488351232 → earshotlaw05_CrcBack.f a0 = some true
theorem earshotlaw05_CrcBack.walk (P : earshotlaw05_CrcBack.Pure) (a0 : ByteArray) (w : World) (w0 : a0.size ≤ 140737488351232) :
    Calls Try.prog 6 #[.string a0] w fun e w' => e = .returned (.bool true) ∧ Below w.heap.size w w' := by
  have h := P a0 w0
  refine (earshotlaw05_CrcBack.calls a0 true w h).mono ?_
  rintro e w' ⟨rfl, hd⟩
  exact ⟨rfl, hd⟩

end Go.Proofs.Yteihjdpbahfnnaa.PCrcBack
