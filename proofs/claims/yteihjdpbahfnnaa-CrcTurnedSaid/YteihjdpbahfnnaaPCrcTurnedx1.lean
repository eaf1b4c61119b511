-- Written by a program of this work (wip/tools) for this claim; Lean checks it.
import Derived.Test.YteihjdpbahfnnaaPCrcTurnedx0
namespace Go.Proofs.Yteihjdpbahfnnaa.PCrcTurned
open Go.RowKit Go.Proofs.YteihjdpbahfnnaaW.PrintWords Go.Proofs.YteihjdpbahfnnaaW.PrintLast Go.Proofs.YteihjdpbahfnnaaW.PrintMore
attribute [local go_sem] max2_int min2_int max_two min_two max_three min_three max_four min_four   -- for this text's walks alone
set_option linter.unusedVariables false
set_option linter.unusedSimpArgs false

-- NOT PRINTED: function 30 (crc_Sum_1)

/-! ### crc_Sum: function 15 -/
def crcStep (r : Int) : Int := Go.bits .xor .u32 (r / 2) ((3988292384 * (Go.bits .and .u32 r 1)) % 4294967296)
def crcReps : Nat → Int → Int
  | 0, r => r
  | n + 1, r => crcReps n (crcStep r)
def crcByte (r b : Int) : Int := crcReps 8 (Go.bits .xor .u32 r (b % 4294967296))
def crcFrom : Nat → ByteArray → Int → Int → Int
  | 0, _, _, r => r
  | n + 1, s, i, r => crcFrom n s (i + 1) (crcByte r (bt s i))
def crcAll : List ByteArray → Int → Int
  | [], r => r
  | s :: l, r => crcAll l (crcFrom s.size s 0 r)
theorem grown_set (W : World) (b : Nat) (v : Value) : W.grownBy (W.setCell ⟨b, 0, none⟩ v) (some b) :=
  ⟨rfl, rfl, rfl, by simp [World.setCell], fun k _ hk => Below.heap_setCell _ _ _ k (fun e => hk (by rw [e]))⟩
theorem grown_trans {a w w' : World} {row : Option Nat} (h : a.grownBy w row) (k : w.grownBy w' row) : a.grownBy w' row := World.grownBy.trans h k
theorem crc_next (g : Nat) (r b : Int) (w : World) (hg : w.heap[g]? = some (.cells #[.int .u32 r] 25 (0, 0))) :
    Calls Try.prog 30 #[.int .u8 b, .pointer (some ⟨g, 0, none⟩)] w fun e w' => e = .returned (.tuple #[]) ∧ Aside0 (w'.heap[g]? = some (.cells #[.int .u32 (crcByte r b)] 25 (0, 0))) ∧ Aside0 (w.grownBy w' (some g)) := by
  have hc := cell_of_one hg
  have hf := free_of_one hg
  have HG := Aside0.mk hg
  clear hg
  go_enter Try.func30, Try.ntmps30
  go_wp2
  clear hc hf
  go_loopw [8] (fun v wr => ∃ (n : Nat) (x : Int), n ≤ 8 ∧ v = .int .i64 (n : Int) ∧ Aside0 (wr.heap[g]? = some (.cells #[.int .u32 x] 25 (0, 0))) ∧ Aside0 (w.grownBy wr (some g)) ∧ Aside0 (crcReps (8 - n) x = crcByte r b)) (fun v _ => 8 - (intOf v).toNat)
  case atStart => exact ⟨0, _, by omega, rfl, ⟨one_setCell HG.out⟩, ⟨grown_set _ _ _⟩, ⟨rfl⟩⟩
  case round =>
    obtain ⟨n, x, hn, rfl, HX, HW, HE⟩ := hrel
    have hc := cell_of_one HX.out
    have hf := free_of_one HX.out
    by_cases hlt : n < 8
    · go_wp2
      go_roundw
      case rel => exact ⟨n + 1, _, by omega, by go_num, ⟨one_setCell HX.out⟩, ⟨grown_trans HW.out (grown_set _ _ _)⟩, ⟨by rw [← HE.out, show 8 - n = (8 - (n + 1)) + 1 by omega]; rfl⟩⟩
      case measure => simp [intOf]; omega
    · obtain rfl : n = 8 := by omega
      go_wp2
      go_end0
      exact ⟨rfl, ⟨by have := HE.out; simp only [crcReps, Nat.sub_self] at this; rw [← this]; exact HX.out⟩, HW⟩
def crcOk (l0 : List ByteArray) : Bool := decide (l0.length ≤ 4611686018427387904) && l0.all fun s => decide (s.size ≤ 4611686018427387904)
def crc_Sum.f (l0 : List ByteArray) : Option (Int) := if crcOk l0 = true then some (Go.bits .xor .u32 4294967295 (crcAll l0 4294967295)) else none
theorem crc_drop (l : List ByteArray) (i : Nat) (h : i < l.length) (r : Int) : crcAll (l.drop i) r = crcAll (l.drop (i + 1)) (crcFrom (l.getD i ByteArray.empty).size (l.getD i ByteArray.empty) 0 r) := by
  rw [List.drop_eq_getElem_cons h, crcAll, List.getD_eq_getElem?_getD, List.getElem?_eq_getElem h]
  rfl
set_option maxHeartbeats 8000000 in
theorem crc_Sum.calls (A0 : Option Addr) (c0 : Nat) (l0 : List ByteArray) (r : Int) (w : World) (hr0 : Kd.C Kd.string w A0 l0.length l0) (hc0 : l0.length ≤ c0) (h : crc_Sum.f l0 = some r) :
    Calls Try.prog 15 #[.slice A0 l0.length c0] w fun e w' => e = .returned (.int .u32 r) ∧ Below w.heap.size w w' := by
  have hok : crcOk l0 = true := by
    unfold crc_Sum.f at h
    split at h
    · assumption
    · cases h
  have HR : Aside0 (Go.bits .xor .u32 4294967295 (crcAll l0 4294967295) = r) := by
    unfold crc_Sum.f at h
    rw [if_pos hok] at h
    exact ⟨Option.some.inj h⟩
  clear h
  simp only [crcOk, Bool.and_eq_true, decide_eq_true_eq, List.all_eq_true] at hok
  obtain ⟨hl, hs⟩ := hok
  have HS := Aside0.mk hs
  have HC := Aside0.mk hr0
  have HC0 := Aside0.mk hc0
  clear hs hr0 hc0
  have hmf : ∀ (fn : Fn) (first cap : Array Value) (w : World), (Instr.makeFunc fn first cap).run Try.prog w = .ok (.func fn first cap) w := fun _ _ _ _ => rfl
  go_enter Try.func15, Try.ntmps15
  go_wp2
  go_loopw [11] (fun v wr => ∃ (n : Nat) (x : Int), n ≤ l0.length ∧ v = .int .i64 (n : Int) ∧ Aside0 (wr.heap[w.heap.size]? = some (.cells #[.int .u32 x] 25 (0, 0))) ∧ Aside0 (Below w.heap.size w wr) ∧ Aside0 (crcAll (l0.drop n) x = crcAll l0 4294967295)) (fun v _ => l0.length - (intOf v).toNat)
  case atStart => exact ⟨0, 4294967295, by omega, rfl, ⟨by simpa using heap_alloc_new w _⟩, ⟨below_alloc (Below.refl _ _) _⟩, ⟨rfl⟩⟩
  case round =>
    obtain ⟨n, x, hn, rfl, HX, HW, HE⟩ := hrel
    have hc := cell_of_one HX.out
    have hf := free_of_one HX.out
    by_cases hlt : n < l0.length
    · obtain ⟨ad, ha, hcell⟩ := Kd.at_string (Kd.C_below HC.out HW.out) (n : Int) (by omega) (by omega)
      subst ha
      rw [Int.toNat_natCast] at hcell
      obtain ⟨s, hsv⟩ : ∃ s, s = rdOf ByteArray.empty l0 (n : Int) := ⟨_, rfl⟩
      rw [← hsv] at hcell
      have HE2 : Aside0 (crcAll (l0.drop (n + 1)) (crcFrom s.size s 0 x) = crcAll l0 4294967295) := ⟨by rw [← HE.out, crc_drop l0 n hlt, hsv]; rfl⟩
      have hsz : s.size ≤ 4611686018427387904 := by
        refine HS.out s ?_
        rw [hsv]
        simp only [rdOf, Int.toNat_natCast, List.getD_eq_getElem?_getD, List.getElem?_eq_getElem hlt]
        exact List.getElem_mem _
      clear hsv
      go_wp2
      go_loopw [17] (fun v wr2 => ∃ (m : Nat) (y : Int), m ≤ s.size ∧ v = .int .i64 (m : Int) ∧ Aside0 (wr2.heap[w.heap.size]? = some (.cells #[.int .u32 y] 25 (0, 0))) ∧ Aside0 (Below w.heap.size w wr2) ∧ Aside0 (crcFrom (s.size - m) s (m : Int) y = crcFrom s.size s 0 x)) (fun v _ => s.size - (intOf v).toNat)
      case atStart => exact ⟨0, x, by omega, rfl, HX, HW, ⟨rfl⟩⟩
      case round =>
        clear hc hf hcell
        obtain ⟨m, y, hm, rfl, HY, HV, HF⟩ := hrel
        by_cases hlm : m < s.size
        · have hx := bt_at s (m : Int)
          go_wp2_with (go_at_call 30; refine (crc_next _ y _ _ HY.out).mono ?_; rintro e w' ⟨rfl, HN, HG⟩)
          refine ⟨⟨m + 1, _, by omega, by go_num, HN, ⟨Below.grown HV.out HG.out HV.out.size (fun k hk => by injection hk with hk; omega)⟩, ⟨?_⟩⟩, by simp [intOf]; omega⟩
          rw [← HF.out, show s.size - m = (s.size - (m + 1)) + 1 by omega, crcFrom, ← hx (by simpa using hlm)]
          rfl
        · obtain rfl : m = s.size := by omega
          have HF' : y = crcFrom s.size s 0 x := by have := HF.out; rwa [Nat.sub_self, crcFrom] at this
          subst HF'
          go_wp2
          go_roundw
          case rel => exact ⟨n + 1, _, by omega, by go_num, HY, HV, HE2⟩
          case measure => simp [intOf]; omega
    · obtain rfl : n = l0.length := by omega
      go_wp2
      go_ret
      refine ⟨?_, HW.out⟩
      show Ending.returned (.int .u32 (Go.bits .xor .u32 IntKind.u32.max x)) = .returned (.int .u32 r)
      rw [← HR.out, ← HE.out, List.drop_length, crcAll]
      rfl

/-! ### earshotlaw05_awake: function 13 -/
def earshotlaw05_awake.f  : Option (Bool) := (crc_Sum.f (([(⟨#[49, 50, 51, 52, 53]⟩ : ByteArray), (⟨#[54, 55, 56, 57]⟩ : ByteArray)] : List ByteArray))).bind fun t104 => (some (t104 == 3421780262))
set_option maxHeartbeats 8000000 in
set_option maxRecDepth 100000 in
theorem earshotlaw05_awake.calls  (r : Bool) (w : World) (h : earshotlaw05_awake.f  = some r) :
    Calls Try.prog 13 #[] w fun e w' => e = .returned (.bool r) ∧ Below w.heap.size w w' := by
  have HB := Aside0.mk (Below.refl w.heap.size w)
  have H : ((crc_Sum.f (([(⟨#[49, 50, 51, 52, 53]⟩ : ByteArray), (⟨#[54, 55, 56, 57]⟩ : ByteArray)] : List ByteArray))).bind fun t104 => (some (t104 == 3421780262))) = some r := h
  clear h
  obtain ⟨y101, hy101⟩ : ∃ y_ : List ByteArray, y_ = (([(⟨#[49, 50, 51, 52, 53]⟩ : ByteArray), (⟨#[54, 55, 56, 57]⟩ : ByteArray)] : List ByteArray)) := ⟨_, rfl⟩
  replace H : ((crc_Sum.f y101).bind fun t104 => (some (t104 == 3421780262))) = some r := by first | (rw [hy101]; with_reducible exact H) | (have H2_ := (Option.bind_some _ _).symm.trans H; rw [hy101]; with_reducible exact H2_) | (have H2_ := (Option.bind_some _ _).symm.trans H; with_reducible exact H2_) | with_reducible exact H | (rw [hy101]; exact H) | exact H
  have Ny101 := Aside0.mk hy101
  clear hy101
  replace H := Option.bind_eq_some_iff.mp H
  obtain ⟨t104, A10, H⟩ := H
  replace H : (some (t104 == 3421780262)) = some r := H
  have A1 := Aside0.mk A10
  clear A10
  obtain rfl := Option.some.inj H
  go_enter Try.func13, Try.ntmps13
  go_wp2_with (first | ((with_reducible refine gate_dst (N := 1) rfl ?_); refine Kd.R_lit Kd.string _ 9 ?hg (N := 1) ?hd (xs := ([(⟨#[49, 50, 51, 52, 53]⟩ : ByteArray), (⟨#[54, 55, 56, 57]⟩ : ByteArray)] : List ByteArray)) (inner := [.string (⟨#[49, 50, 51, 52, 53]⟩ : ByteArray), .string (⟨#[54, 55, 56, 57]⟩ : ByteArray)]) (ok := fun _ => True) (okp := fun _ => True) ?hr ?hp (fun _ hk => hk) trivial (Below.refl _ _) (Nat.le_refl _) (by simp) ?_; (case hd => rfl); (case hg => first | rfl | exact wanted_on rfl rfl rfl (by first | assumption | rfl | (simp [*]; done))); (case hr => first | (go_simp; done) | (go_simp; rfl)); (case hp => exact (Reps.one (show Kd.M Kd.string _ _ _ (⟨#[49, 50, 51, 52, 53]⟩ : ByteArray) [.string (⟨#[49, 50, 51, 52, 53]⟩ : ByteArray)] from rfl) (Reps.one (show Kd.M Kd.string _ _ _ (⟨#[54, 55, 56, 57]⟩ : ByteArray) [.string (⟨#[54, 55, 56, 57]⟩ : ByteArray)] from rfl) (Reps.none _ _)))); intro v102 w2 ho3 hb hg_ hnew_; clear hg_ hnew_; (first | rw [← Ny101.out] at ho3 | (simp only [Int.reduceToNat] at ho3; rw [← Ny101.out] at ho3)); have n0_ := Aside0.mk (Kd.R_lower ho3 (below_size (by repeat (first | (with_reducible first | exact HB.out | apply below_alloc | apply pw_below_drewN | apply below_drew1) | exact HB.out)))); have n1_ := Aside0.mk (below_step (by repeat (first | (with_reducible first | exact HB.out | apply below_alloc | apply pw_below_drewN | apply below_drew1) | exact HB.out)) hb); clear HB; have HO103 := n0_; have HB := n1_; clear n0_ n1_; clear hb ho3; obtain ⟨Ao4, co4, eo4⟩ := Kd.R_slice HO103.out; subst eo4) | ((with_reducible refine gate_callee (f := 15) rfl ?_); refine goesL_ (some 2) rfl rfl Try.func15 (by kernel_rfl) rfl #[.slice Ao4 y101.length co4] rfl (by (try simp only [List.map_toArray, List.map_cons, List.map_nil]); first | done | rfl | (simp only [List.length_drop, List.length_take]; rfl)) ?_; (with_reducible refine (crc_Sum.calls _ _ y101 t104 _ ?side1 ?side2 A1.out).mono ?_); (case side1 => repeat (first | exact (Kd.R_reads' HO103.out).2.2 | (with_reducible refine Kd.C_alloc ?_ _) | (with_reducible refine Kd.C_drewN ?_ _) | (with_reducible refine Kd.C_drew ?_))); (case side2 => exact (Kd.R_reads' HO103.out).2.1); rintro e w5 ⟨rfl, hb⟩; refine ⟨_, rfl, ?_⟩; have n0_ := Aside0.mk (Kd.R_below (by (with_reducible repeat (first | apply Kd.R_alloc | apply Kd.R_drewN | apply Kd.R_drew)); (first | exact HO103.out | exact Kd.R_mono HO103.out (fun _ _ => trivial) | exact Kd.R_mono HO103.out (fun _ hk => hk.1))) hb); have n1_ := Aside0.mk (below_step (by repeat (first | (with_reducible first | exact HB.out | apply below_alloc | apply pw_below_drewN | apply below_drew1) | exact HB.out)) hb); clear HO103; clear HB; have HO103 := n0_; have HB := n1_; clear n0_ n1_; (try clear hb); (try clear hb2); (try clear hk); (try clear hi)))
  go_ret
  exact ⟨by first | rfl | (simp [errW_none, errW_some] <;> rfl) | (simp [*, errW_none, errW_some] <;> rfl), by repeat (first | (with_reducible first | exact HB.out | apply below_alloc | apply pw_below_drewN | apply below_drew1) | exact HB.out)⟩

end Go.Proofs.Yteihjdpbahfnnaa.PCrcTurned
