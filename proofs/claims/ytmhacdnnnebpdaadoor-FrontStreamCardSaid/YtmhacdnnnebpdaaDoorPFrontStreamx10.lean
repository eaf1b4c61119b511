-- Written by a program of this work (wip/tools) for this claim; Lean checks it.
import Derived.Test.YtmhacdnnnebpdaaDoorPFrontStreamx9
namespace Go.Proofs.YtmhacdnnnebpdaaDoor.PFrontStream
open Go.RowKit Go.Proofs.YtmhacdnnnebpdaaDoorW.PrintWords Go.Proofs.YtmhacdnnnebpdaaDoorW.PrintLast Go.Proofs.YtmhacdnnnebpdaaDoorW.PrintMore
attribute [local go_sem] max2_int min2_int max_two min_two max_three min_three max_four min_four   -- for this text's walks alone
set_option linter.unusedVariables false
set_option linter.unusedSimpArgs false
theorem rmay12_f (n : Int) : earshotref12_May.f n = some (mayB n.toNat) := by
 unfold earshotref12_May.f mayB
 by_cases h1 : n = 4
 · subst h1; rfl
 ·
  by_cases h2 : n = 8
  · subst h2; rfl
  ·
   by_cases h3 : n = 16
   · subst h3; rfl
   ·
    have e1 : (n.toNat == 4) = false := by rw [beq_eq_false_iff_ne]; omega
    have e2 : (n.toNat == 8) = false := by rw [beq_eq_false_iff_ne]; omega
    have e3 : (n.toNat == 16) = false := by rw [beq_eq_false_iff_ne]; omega
    simp [h1, h2, h3, e1, e2, e3]
set_option maxHeartbeats 16000000 in
set_option maxRecDepth 100000 in
theorem rright_16 (h b c p : Int) (r : Bool) (w : World) (hr : rightB 16 h b c p = r) : Calls Tryd.prog 26 #[.agg #[.int .i64 16, .int .i64 h, .int .i64 b, .int .i64 c, .int .i64 p]] w fun e w' => e = .returned (.bool r) ∧ Below w.heap.size w w' := by
 have hu39 := Tryd.underlying39
 obtain ⟨mb, hmb⟩ : ∃ q, mayB b.toNat = q := ⟨_, rfl⟩
 have HM : Aside0 (earshotref12_May.f b = some mb) := ⟨by rw [rmay12_f, hmb]⟩
 have hr2 : (decide (1 ≤ h) && decide (h ≤ 16) && mb && decide (1 ≤ c) && decide (c ≤ b) && decide (0 ≤ p) && decide (p ≤ 32767)) = r := by
  rw [← hr, ← hmb]
  unfold rightB
  rw [show sizeB 16 = true from rfl, Bool.true_and, show decide (p < 32768) = decide (p ≤ 32767) from decide_eq_decide.2 (by omega)]
 have hway : (r = false ∧ decide (1 ≤ h) = false) ∨ (r = false ∧ decide (1 ≤ h) = true ∧ decide (h ≤ 16) = false) ∨ (r = false ∧ decide (1 ≤ h) = true ∧ decide (h ≤ 16) = true ∧ mb = false) ∨ (r = false ∧ decide (1 ≤ h) = true ∧ decide (h ≤ 16) = true ∧ mb = true ∧ decide (1 ≤ c) = false) ∨ (r = false ∧ decide (1 ≤ h) = true ∧ decide (h ≤ 16) = true ∧ mb = true ∧ decide (1 ≤ c) = true ∧ decide (c ≤ b) = false) ∨ (r = false ∧ decide (1 ≤ h) = true ∧ decide (h ≤ 16) = true ∧ mb = true ∧ decide (1 ≤ c) = true ∧ decide (c ≤ b) = true ∧ decide (0 ≤ p) = false) ∨ (r = false ∧ decide (1 ≤ h) = true ∧ decide (h ≤ 16) = true ∧ mb = true ∧ decide (1 ≤ c) = true ∧ decide (c ≤ b) = true ∧ decide (0 ≤ p) = true ∧ decide (p ≤ 32767) = false) ∨ (r = true ∧ decide (1 ≤ h) = true ∧ decide (h ≤ 16) = true ∧ mb = true ∧ decide (1 ≤ c) = true ∧ decide (c ≤ b) = true ∧ decide (0 ≤ p) = true ∧ decide (p ≤ 32767) = true) := by
  rcases (Bool.eq_false_or_eq_true (decide (1 ≤ h))).symm with e1 | e1
  · exact .inl ⟨by rw [← hr2, e1]; rfl, e1⟩
  rcases (Bool.eq_false_or_eq_true (decide (h ≤ 16))).symm with e2 | e2
  · exact .inr (.inl ⟨by rw [← hr2, e1, e2]; rfl, e1, e2⟩)
  rcases (Bool.eq_false_or_eq_true (mb)).symm with e3 | e3
  · exact .inr (.inr (.inl ⟨by rw [← hr2, e1, e2, e3]; rfl, e1, e2, e3⟩))
  rcases (Bool.eq_false_or_eq_true (decide (1 ≤ c))).symm with e4 | e4
  · exact .inr (.inr (.inr (.inl ⟨by rw [← hr2, e1, e2, e3, e4]; rfl, e1, e2, e3, e4⟩)))
  rcases (Bool.eq_false_or_eq_true (decide (c ≤ b))).symm with e5 | e5
  · exact .inr (.inr (.inr (.inr (.inl ⟨by rw [← hr2, e1, e2, e3, e4, e5]; rfl, e1, e2, e3, e4, e5⟩))))
  rcases (Bool.eq_false_or_eq_true (decide (0 ≤ p))).symm with e6 | e6
  · exact .inr (.inr (.inr (.inr (.inr (.inl ⟨by rw [← hr2, e1, e2, e3, e4, e5, e6]; rfl, e1, e2, e3, e4, e5, e6⟩)))))
  rcases (Bool.eq_false_or_eq_true (decide (p ≤ 32767))).symm with e7 | e7
  · exact .inr (.inr (.inr (.inr (.inr (.inr (.inl ⟨by rw [← hr2, e1, e2, e3, e4, e5, e6, e7]; rfl, e1, e2, e3, e4, e5, e6, e7⟩))))))
  exact .inr (.inr (.inr (.inr (.inr (.inr (.inr ⟨by rw [← hr2, e1, e2, e3, e4, e5, e6, e7]; rfl, e1, e2, e3, e4, e5, e6, e7⟩))))))
 clear hr2 hmb hr
 rcases hway with ⟨rfl, e1⟩ | ⟨rfl, e1, e2⟩ | ⟨rfl, e1, e2, e3⟩ | ⟨rfl, e1, e2, e3, e4⟩ | ⟨rfl, e1, e2, e3, e4, e5⟩ | ⟨rfl, e1, e2, e3, e4, e5, e6⟩ | ⟨rfl, e1, e2, e3, e4, e5, e6, e7⟩ | ⟨rfl, e1, e2, e3, e4, e5, e6, e7⟩
 all_goals
  (try subst mb)
  have ST0 : True := trivial
  go_enter Tryd.func26, Tryd.ntmps26
  go_wp2_with (first
   | ((with_reducible refine gate_dst (N := 1) rfl ?_); refine box_event ?hg (N := 1) ?hd (cs := #[.int .i64 16, .int .i64 h, .int .i64 b, .int .i64 c, .int .i64 p]) (t := 39) ?hr ?_; (case hd => rfl); (case hg => first | rfl | exact wanted_on rfl rfl rfl (by first | assumption | rfl | (simp [*]; done))); (case hr => first | (go_simp; done) | (go_simp; rfl)); intro gb hgb w1 hbox hb; subst hgb; have BK := Aside0.mk hbox; have HB := Aside0.mk hb; have q0 := blk_cell BK.out 0; have q1 := blk_cell BK.out 1; have q2 := blk_cell BK.out 2; have q3 := blk_cell BK.out 3; have q4 := blk_cell BK.out 4; clear ST0 hbox hb; have ST1 : True := trivial)
   | (go_at_call 61; clear ST1; (with_reducible refine (earshotref12_May.calls _ _ _ HM.out).mono ?_); rintro e_ w2 ⟨rfl, B1⟩; have hb := (by first | exact B1 | exact B1.below : Below w1.heap.size w1 w2); have BK2 := Aside0.mk (blk_below BK.out hb); have HB2 := Aside0.mk (below_step HB.out hb); clear B1 hb HB BK q0 q1 q2 q3 q4; have q0 := blk_cell BK2.out 0; have q1 := blk_cell BK2.out 1; have q2 := blk_cell BK2.out 2; have q3 := blk_cell BK2.out 3; have q4 := blk_cell BK2.out 4))
  go_ret
  exact ⟨rfl, by repeat (first | exact HB2.out | apply pw_below_drewN)⟩
set_option maxHeartbeats 16000000 in
set_option maxRecDepth 100000 in
theorem rright_32 (h b c p : Int) (r : Bool) (w : World) (hr : rightB 32 h b c p = r) : Calls Tryd.prog 26 #[.agg #[.int .i64 32, .int .i64 h, .int .i64 b, .int .i64 c, .int .i64 p]] w fun e w' => e = .returned (.bool r) ∧ Below w.heap.size w w' := by
 have hu39 := Tryd.underlying39
 obtain ⟨mb, hmb⟩ : ∃ q, mayB b.toNat = q := ⟨_, rfl⟩
 have HM : Aside0 (earshotref12_May.f b = some mb) := ⟨by rw [rmay12_f, hmb]⟩
 have hr2 : (decide (1 ≤ h) && decide (h ≤ 32) && mb && decide (1 ≤ c) && decide (c ≤ b) && decide (0 ≤ p) && decide (p ≤ 32767)) = r := by
  rw [← hr, ← hmb]
  unfold rightB
  rw [show sizeB 32 = true from rfl, Bool.true_and, show decide (p < 32768) = decide (p ≤ 32767) from decide_eq_decide.2 (by omega)]
 have hway : (r = false ∧ decide (1 ≤ h) = false) ∨ (r = false ∧ decide (1 ≤ h) = true ∧ decide (h ≤ 32) = false) ∨ (r = false ∧ decide (1 ≤ h) = true ∧ decide (h ≤ 32) = true ∧ mb = false) ∨ (r = false ∧ decide (1 ≤ h) = true ∧ decide (h ≤ 32) = true ∧ mb = true ∧ decide (1 ≤ c) = false) ∨ (r = false ∧ decide (1 ≤ h) = true ∧ decide (h ≤ 32) = true ∧ mb = true ∧ decide (1 ≤ c) = true ∧ decide (c ≤ b) = false) ∨ (r = false ∧ decide (1 ≤ h) = true ∧ decide (h ≤ 32) = true ∧ mb = true ∧ decide (1 ≤ c) = true ∧ decide (c ≤ b) = true ∧ decide (0 ≤ p) = false) ∨ (r = false ∧ decide (1 ≤ h) = true ∧ decide (h ≤ 32) = true ∧ mb = true ∧ decide (1 ≤ c) = true ∧ decide (c ≤ b) = true ∧ decide (0 ≤ p) = true ∧ decide (p ≤ 32767) = false) ∨ (r = true ∧ decide (1 ≤ h) = true ∧ decide (h ≤ 32) = true ∧ mb = true ∧ decide (1 ≤ c) = true ∧ decide (c ≤ b) = true ∧ decide (0 ≤ p) = true ∧ decide (p ≤ 32767) = true) := by
  rcases (Bool.eq_false_or_eq_true (decide (1 ≤ h))).symm with e1 | e1
  · exact .inl ⟨by rw [← hr2, e1]; rfl, e1⟩
  rcases (Bool.eq_false_or_eq_true (decide (h ≤ 32))).symm with e2 | e2
  · exact .inr (.inl ⟨by rw [← hr2, e1, e2]; rfl, e1, e2⟩)
  rcases (Bool.eq_false_or_eq_true (mb)).symm with e3 | e3
  · exact .inr (.inr (.inl ⟨by rw [← hr2, e1, e2, e3]; rfl, e1, e2, e3⟩))
  rcases (Bool.eq_false_or_eq_true (decide (1 ≤ c))).symm with e4 | e4
  · exact .inr (.inr (.inr (.inl ⟨by rw [← hr2, e1, e2, e3, e4]; rfl, e1, e2, e3, e4⟩)))
  rcases (Bool.eq_false_or_eq_true (decide (c ≤ b))).symm with e5 | e5
  · exact .inr (.inr (.inr (.inr (.inl ⟨by rw [← hr2, e1, e2, e3, e4, e5]; rfl, e1, e2, e3, e4, e5⟩))))
  rcases (Bool.eq_false_or_eq_true (decide (0 ≤ p))).symm with e6 | e6
  · exact .inr (.inr (.inr (.inr (.inr (.inl ⟨by rw [← hr2, e1, e2, e3, e4, e5, e6]; rfl, e1, e2, e3, e4, e5, e6⟩)))))
  rcases (Bool.eq_false_or_eq_true (decide (p ≤ 32767))).symm with e7 | e7
  · exact .inr (.inr (.inr (.inr (.inr (.inr (.inl ⟨by rw [← hr2, e1, e2, e3, e4, e5, e6, e7]; rfl, e1, e2, e3, e4, e5, e6, e7⟩))))))
  exact .inr (.inr (.inr (.inr (.inr (.inr (.inr ⟨by rw [← hr2, e1, e2, e3, e4, e5, e6, e7]; rfl, e1, e2, e3, e4, e5, e6, e7⟩))))))
 clear hr2 hmb hr
 rcases hway with ⟨rfl, e1⟩ | ⟨rfl, e1, e2⟩ | ⟨rfl, e1, e2, e3⟩ | ⟨rfl, e1, e2, e3, e4⟩ | ⟨rfl, e1, e2, e3, e4, e5⟩ | ⟨rfl, e1, e2, e3, e4, e5, e6⟩ | ⟨rfl, e1, e2, e3, e4, e5, e6, e7⟩ | ⟨rfl, e1, e2, e3, e4, e5, e6, e7⟩
 all_goals
  (try subst mb)
  have ST0 : True := trivial
  go_enter Tryd.func26, Tryd.ntmps26
  go_wp2_with (first
   | ((with_reducible refine gate_dst (N := 1) rfl ?_); refine box_event ?hg (N := 1) ?hd (cs := #[.int .i64 32, .int .i64 h, .int .i64 b, .int .i64 c, .int .i64 p]) (t := 39) ?hr ?_; (case hd => rfl); (case hg => first | rfl | exact wanted_on rfl rfl rfl (by first | assumption | rfl | (simp [*]; done))); (case hr => first | (go_simp; done) | (go_simp; rfl)); intro gb hgb w1 hbox hb; subst hgb; have BK := Aside0.mk hbox; have HB := Aside0.mk hb; have q0 := blk_cell BK.out 0; have q1 := blk_cell BK.out 1; have q2 := blk_cell BK.out 2; have q3 := blk_cell BK.out 3; have q4 := blk_cell BK.out 4; clear ST0 hbox hb; have ST1 : True := trivial)
   | (go_at_call 61; clear ST1; (with_reducible refine (earshotref12_May.calls _ _ _ HM.out).mono ?_); rintro e_ w2 ⟨rfl, B1⟩; have hb := (by first | exact B1 | exact B1.below : Below w1.heap.size w1 w2); have BK2 := Aside0.mk (blk_below BK.out hb); have HB2 := Aside0.mk (below_step HB.out hb); clear B1 hb HB BK q0 q1 q2 q3 q4; have q0 := blk_cell BK2.out 0; have q1 := blk_cell BK2.out 1; have q2 := blk_cell BK2.out 2; have q3 := blk_cell BK2.out 3; have q4 := blk_cell BK2.out 4))
  go_ret
  exact ⟨rfl, by repeat (first | exact HB2.out | apply pw_below_drewN)⟩
set_option maxHeartbeats 16000000 in
set_option maxRecDepth 100000 in
theorem rright_64 (h b c p : Int) (r : Bool) (w : World) (hr : rightB 64 h b c p = r) : Calls Tryd.prog 26 #[.agg #[.int .i64 64, .int .i64 h, .int .i64 b, .int .i64 c, .int .i64 p]] w fun e w' => e = .returned (.bool r) ∧ Below w.heap.size w w' := by
 have hu39 := Tryd.underlying39
 obtain ⟨mb, hmb⟩ : ∃ q, mayB b.toNat = q := ⟨_, rfl⟩
 have HM : Aside0 (earshotref12_May.f b = some mb) := ⟨by rw [rmay12_f, hmb]⟩
 have hr2 : (decide (1 ≤ h) && decide (h ≤ 64) && mb && decide (1 ≤ c) && decide (c ≤ b) && decide (0 ≤ p) && decide (p ≤ 32767)) = r := by
  rw [← hr, ← hmb]
  unfold rightB
  rw [show sizeB 64 = true from rfl, Bool.true_and, show decide (p < 32768) = decide (p ≤ 32767) from decide_eq_decide.2 (by omega)]
 have hway : (r = false ∧ decide (1 ≤ h) = false) ∨ (r = false ∧ decide (1 ≤ h) = true ∧ decide (h ≤ 64) = false) ∨ (r = false ∧ decide (1 ≤ h) = true ∧ decide (h ≤ 64) = true ∧ mb = false) ∨ (r = false ∧ decide (1 ≤ h) = true ∧ decide (h ≤ 64) = true ∧ mb = true ∧ decide (1 ≤ c) = false) ∨ (r = false ∧ decide (1 ≤ h) = true ∧ decide (h ≤ 64) = true ∧ mb = true ∧ decide (1 ≤ c) = true ∧ decide (c ≤ b) = false) ∨ (r = false ∧ decide (1 ≤ h) = true ∧ decide (h ≤ 64) = true ∧ mb = true ∧ decide (1 ≤ c) = true ∧ decide (c ≤ b) = true ∧ decide (0 ≤ p) = false) ∨ (r = false ∧ decide (1 ≤ h) = true ∧ decide (h ≤ 64) = true ∧ mb = true ∧ decide (1 ≤ c) = true ∧ decide (c ≤ b) = true ∧ decide (0 ≤ p) = true ∧ decide (p ≤ 32767) = false) ∨ (r = true ∧ decide (1 ≤ h) = true ∧ decide (h ≤ 64) = true ∧ mb = true ∧ decide (1 ≤ c) = true ∧ decide (c ≤ b) = true ∧ decide (0 ≤ p) = true ∧ decide (p ≤ 32767) = true) := by
  rcases (Bool.eq_false_or_eq_true (decide (1 ≤ h))).symm with e1 | e1
  · exact .inl ⟨by rw [← hr2, e1]; rfl, e1⟩
  rcases (Bool.eq_false_or_eq_true (decide (h ≤ 64))).symm with e2 | e2
  · exact .inr (.inl ⟨by rw [← hr2, e1, e2]; rfl, e1, e2⟩)
  rcases (Bool.eq_false_or_eq_true (mb)).symm with e3 | e3
  · exact .inr (.inr (.inl ⟨by rw [← hr2, e1, e2, e3]; rfl, e1, e2, e3⟩))
  rcases (Bool.eq_false_or_eq_true (decide (1 ≤ c))).symm with e4 | e4
  · exact .inr (.inr (.inr (.inl ⟨by rw [← hr2, e1, e2, e3, e4]; rfl, e1, e2, e3, e4⟩)))
  rcases (Bool.eq_false_or_eq_true (decide (c ≤ b))).symm with e5 | e5
  · exact .inr (.inr (.inr (.inr (.inl ⟨by rw [← hr2, e1, e2, e3, e4, e5]; rfl, e1, e2, e3, e4, e5⟩))))
  rcases (Bool.eq_false_or_eq_true (decide (0 ≤ p))).symm with e6 | e6
  · exact .inr (.inr (.inr (.inr (.inr (.inl ⟨by rw [← hr2, e1, e2, e3, e4, e5, e6]; rfl, e1, e2, e3, e4, e5, e6⟩)))))
  rcases (Bool.eq_false_or_eq_true (decide (p ≤ 32767))).symm with e7 | e7
  · exact .inr (.inr (.inr (.inr (.inr (.inr (.inl ⟨by rw [← hr2, e1, e2, e3, e4, e5, e6, e7]; rfl, e1, e2, e3, e4, e5, e6, e7⟩))))))
  exact .inr (.inr (.inr (.inr (.inr (.inr (.inr ⟨by rw [← hr2, e1, e2, e3, e4, e5, e6, e7]; rfl, e1, e2, e3, e4, e5, e6, e7⟩))))))
 clear hr2 hmb hr
 rcases hway with ⟨rfl, e1⟩ | ⟨rfl, e1, e2⟩ | ⟨rfl, e1, e2, e3⟩ | ⟨rfl, e1, e2, e3, e4⟩ | ⟨rfl, e1, e2, e3, e4, e5⟩ | ⟨rfl, e1, e2, e3, e4, e5, e6⟩ | ⟨rfl, e1, e2, e3, e4, e5, e6, e7⟩ | ⟨rfl, e1, e2, e3, e4, e5, e6, e7⟩
 all_goals
  (try subst mb)
  have ST0 : True := trivial
  go_enter Tryd.func26, Tryd.ntmps26
  go_wp2_with (first
   | ((with_reducible refine gate_dst (N := 1) rfl ?_); refine box_event ?hg (N := 1) ?hd (cs := #[.int .i64 64, .int .i64 h, .int .i64 b, .int .i64 c, .int .i64 p]) (t := 39) ?hr ?_; (case hd => rfl); (case hg => first | rfl | exact wanted_on rfl rfl rfl (by first | assumption | rfl | (simp [*]; done))); (case hr => first | (go_simp; done) | (go_simp; rfl)); intro gb hgb w1 hbox hb; subst hgb; have BK := Aside0.mk hbox; have HB := Aside0.mk hb; have q0 := blk_cell BK.out 0; have q1 := blk_cell BK.out 1; have q2 := blk_cell BK.out 2; have q3 := blk_cell BK.out 3; have q4 := blk_cell BK.out 4; clear ST0 hbox hb; have ST1 : True := trivial)
   | (go_at_call 61; clear ST1; (with_reducible refine (earshotref12_May.calls _ _ _ HM.out).mono ?_); rintro e_ w2 ⟨rfl, B1⟩; have hb := (by first | exact B1 | exact B1.below : Below w1.heap.size w1 w2); have BK2 := Aside0.mk (blk_below BK.out hb); have HB2 := Aside0.mk (below_step HB.out hb); clear B1 hb HB BK q0 q1 q2 q3 q4; have q0 := blk_cell BK2.out 0; have q1 := blk_cell BK2.out 1; have q2 := blk_cell BK2.out 2; have q3 := blk_cell BK2.out 3; have q4 := blk_cell BK2.out 4))
  go_ret
  exact ⟨rfl, by repeat (first | exact HB2.out | apply pw_below_drewN)⟩
set_option maxHeartbeats 16000000 in
set_option maxRecDepth 100000 in
theorem rright_no (s h b c p : Int) (w : World) (z1 : ¬ s = 16) (z2 : ¬ s = 32) (z3 : ¬ s = 64) : Calls Tryd.prog 26 #[.agg #[.int .i64 s, .int .i64 h, .int .i64 b, .int .i64 c, .int .i64 p]] w fun e w' => e = .returned (.bool false) ∧ Below w.heap.size w w' := by
 have hu39 := Tryd.underlying39
 have HM : Aside0 (earshotref12_May.f b = some (mayB b.toNat)) := ⟨rmay12_f b⟩
 have ST0 : True := trivial
 go_enter Tryd.func26, Tryd.ntmps26
 go_wp2_with (first
  | ((with_reducible refine gate_dst (N := 1) rfl ?_); refine box_event ?hg (N := 1) ?hd (cs := #[.int .i64 s, .int .i64 h, .int .i64 b, .int .i64 c, .int .i64 p]) (t := 39) ?hr ?_; (case hd => rfl); (case hg => first | rfl | exact wanted_on rfl rfl rfl (by first | assumption | rfl | (simp [*]; done))); (case hr => first | (go_simp; done) | (go_simp; rfl)); intro gb hgb w1 hbox hb; subst hgb; have BK := Aside0.mk hbox; have HB := Aside0.mk hb; have q0 := blk_cell BK.out 0; have q1 := blk_cell BK.out 1; have q2 := blk_cell BK.out 2; have q3 := blk_cell BK.out 3; have q4 := blk_cell BK.out 4; clear ST0 hbox hb; have ST1 : True := trivial)
  | (go_at_call 61; clear ST1; (with_reducible refine (earshotref12_May.calls _ _ _ HM.out).mono ?_); rintro e_ w2 ⟨rfl, B1⟩; have hb := (by first | exact B1 | exact B1.below : Below w1.heap.size w1 w2); have BK2 := Aside0.mk (blk_below BK.out hb); have HB2 := Aside0.mk (below_step HB.out hb); clear B1 hb HB BK q0 q1 q2 q3 q4; have q0 := blk_cell BK2.out 0; have q1 := blk_cell BK2.out 1; have q2 := blk_cell BK2.out 2; have q3 := blk_cell BK2.out 3; have q4 := blk_cell BK2.out 4))
 go_ret
 exact ⟨rfl, by repeat (first | exact HB2.out | apply pw_below_drewN)⟩
theorem rright_go (s h b c p : Int) (w : World) : Calls Tryd.prog 26 #[.agg #[.int .i64 s, .int .i64 h, .int .i64 b, .int .i64 c, .int .i64 p]] w fun e w' => e = .returned (.bool (rightB s h b c p)) ∧ Below w.heap.size w w' := by
 by_cases z1 : s = 16
 · subst z1; exact rright_16 h b c p _ w rfl
 by_cases z2 : s = 32
 · subst z2; exact rright_32 h b c p _ w rfl
 by_cases z3 : s = 64
 · subst z3; exact rright_64 h b c p _ w rfl
 have e : rightB s h b c p = false := by
  unfold rightB
  rw [show sizeB s = false by unfold sizeB; rw [decide_eq_false z1, decide_eq_false z2, decide_eq_false z3]; rfl]
  rfl
 rw [e]
 exact rright_no s h b c p w z1 z2 z3
def earshotref13_Right.f (a0_0 a0_1 a0_2 a0_3 a0_4 : Int) : Option (Bool) := some (rightB a0_0 a0_1 a0_2 a0_3 a0_4)
theorem earshotref13_Right.calls (a0_0 a0_1 a0_2 a0_3 a0_4 : Int) (r : Bool) (w : World) (h : earshotref13_Right.f a0_0 a0_1 a0_2 a0_3 a0_4 = some r) :
  Calls Tryd.prog 26 #[.agg #[.int .i64 a0_0, .int .i64 a0_1, .int .i64 a0_2, .int .i64 a0_3, .int .i64 a0_4]] w fun e w' => e = .returned (.bool r) ∧ Below w.heap.size w w' := by
 obtain rfl := Option.some.inj h
 exact rright_go _ _ _ _ _ w
def earshotref02_Quot.f (a0 : Int) (a1 : Int) : Option (Int) := if a1 = 0 then (none) else (if (Int.tmod a0 a1) < 0 then (some (wrap64 ((wrap64 (Int.tdiv a0 a1)) - 1))) else (some (wrap64 (Int.tdiv a0 a1))))
set_option maxHeartbeats 8000000 in
set_option maxRecDepth 100000 in
theorem earshotref02_Quot.calls (a0 : Int) (a1 : Int) (r : Int) (w : World) (h : earshotref02_Quot.f a0 a1 = some r) :
  Calls Tryd.prog 93 #[.int .i64 a0, .int .i64 a1] w fun e w' => e = .returned (.int .i64 r) ∧ Drawn0 w w' := by
 have H : (if a1 = 0 then (none) else (if (Int.tmod a0 a1) < 0 then (some (wrap64 ((wrap64 (Int.tdiv a0 a1)) - 1))) else (some (wrap64 (Int.tdiv a0 a1))))) = some r := h
 clear h
 by_cases c3 : a1 = 0
 ·
  rw [if_pos c3] at H
  exact absurd H (by simp)
 ·
  rw [if_neg c3] at H
  have c3b0 : (a1 == 0) = false := beq_eq_false_iff_ne.mpr c3
  have c3b1 : (a1 != 0) = true := bne_iff_ne.mpr c3
  by_cases c4 : (Int.tmod a0 a1) < 0
  ·
   rw [if_pos c4] at H
   have c4b0 : decide ((Int.tmod a0 a1) < 0) = true := decide_eq_true c4
   clear c4
   obtain rfl := Option.some.inj H
   go_enter Tryd.func93, Tryd.ntmps93
   go_wp2
   go_ret
   exact ⟨by first | rfl | (simp; done) | (simp [*]; done), by repeat (first | exact Drawn0.refl _ | apply Drawn0.step)⟩
  ·
   rw [if_neg c4] at H
   have c4b0 : decide ((Int.tmod a0 a1) < 0) = false := decide_eq_false c4
   clear c4
   obtain rfl := Option.some.inj H
   go_enter Tryd.func93, Tryd.ntmps93
   go_wp2
   go_ret
   exact ⟨by first | rfl | (simp; done) | (simp [*]; done), by repeat (first | exact Drawn0.refl _ | apply Drawn0.step)⟩
def earshotref02_Rest.f (a0 : Int) (a1 : Int) : Option (Int) := (earshotref02_Quot.f a0 a1).bind fun t135 => (some (wrap64 (a0 - (wrap64 (t135 * a1)))))
set_option maxHeartbeats 8000000 in
set_option maxRecDepth 100000 in
theorem earshotref02_Rest.calls (a0 : Int) (a1 : Int) (r : Int) (w : World) (h : earshotref02_Rest.f a0 a1 = some r) :
  Calls Tryd.prog 107 #[.int .i64 a0, .int .i64 a1] w fun e w' => e = .returned (.int .i64 r) ∧ Drawn0 w w' := by
 have H : ((earshotref02_Quot.f a0 a1).bind fun t135 => (some (wrap64 (a0 - (wrap64 (t135 * a1)))))) = some r := h
 clear h
 replace H := Option.bind_eq_some_iff.mp H
 obtain ⟨t135, A30, H⟩ := H
 replace H : (some (wrap64 (a0 - (wrap64 (t135 * a1))))) = some r := H
 have A3 := Aside0.mk A30
 clear A30
 obtain rfl := Option.some.inj H
 go_enter Tryd.func107, Tryd.ntmps107
 go_wp2_with (first | ((with_reducible refine gate_callee (f := 93) rfl ?_); refine goesL_ (some 8) rfl rfl Tryd.func93 (by kernel_rfl) rfl #[.int .i64 a0, .int .i64 a1] rfl (by (try simp only [List.map_toArray, List.map_cons, List.map_nil]); first | done | rfl | (simp only [List.length_drop, List.length_take]; rfl)) ?_; (with_reducible refine (earshotref02_Quot.calls a0 a1 t135 _ A3.out).mono ?_); rintro e w' ⟨rfl, ⟨nd, rfl⟩⟩; refine ⟨_, rfl, ?_⟩))
 go_ret
 exact ⟨by first | rfl | (simp; done) | (simp [*]; done), by repeat (first | exact Drawn0.refl _ | apply Drawn0.step)⟩
def earshotref04_Rest.f (a0 : Int) : Option (Int) := (earshotref02_Rest.f a0 64).bind fun t136 => (some t136)
set_option maxHeartbeats 8000000 in
set_option maxRecDepth 100000 in
theorem earshotref04_Rest.calls (a0 : Int) (r : Int) (w : World) (h : earshotref04_Rest.f a0 = some r) :
  Calls Tryd.prog 98 #[.int .i64 a0] w fun e w' => e = .returned (.int .i64 r) ∧ Drawn0 w w' := by
 have H : ((earshotref02_Rest.f a0 64).bind fun t136 => (some t136)) = some r := h
 clear h
 replace H := Option.bind_eq_some_iff.mp H
 obtain ⟨t136, A20, H⟩ := H
 replace H : (some t136) = some r := H
 have A2 := Aside0.mk A20
 clear A20
 obtain rfl := Option.some.inj H
 go_enter Tryd.func98, Tryd.ntmps98
 go_wp2_with (first | ((with_reducible refine gate_callee (f := 107) rfl ?_); refine goesL_ (some 4) rfl rfl Tryd.func107 (by kernel_rfl) rfl #[.int .i64 a0, .int .i64 64] rfl (by (try simp only [List.map_toArray, List.map_cons, List.map_nil]); first | done | rfl | (simp only [List.length_drop, List.length_take]; rfl)) ?_; (with_reducible refine (earshotref02_Rest.calls a0 64 t136 _ A2.out).mono ?_); rintro e w' ⟨rfl, ⟨nd, rfl⟩⟩; refine ⟨_, rfl, ?_⟩))
 go_ret
 exact ⟨by first | rfl | (simp; done) | (simp [*]; done), by repeat (first | exact Drawn0.refl _ | apply Drawn0.step)⟩
def qTab : List Int := [16384, 16305, 16069, 15679, 15137, 14449, 13623, 12665, 11585, 10394, 9102, 7723, 6270, 4756, 3196, 1606, 0]
def earshotref04_quarter.f (a0 : Int) : Option (Int) := if 0 ≤ a0 then (if a0 < 17 then (some (qTab.getD a0.toNat 0)) else (none)) else (none)
set_option maxHeartbeats 16000000 in
set_option maxRecDepth 100000 in
theorem earshotref04_quarter.calls (a0 : Int) (r : Int) (w : World) (h : earshotref04_quarter.f a0 = some r) :
  Calls Tryd.prog 99 #[.int .i64 a0] w fun e w' => e = .returned (.int .i64 r) ∧ Below w.heap.size w w' := by
 have h0 : 0 ≤ a0 := by
  unfold earshotref04_quarter.f at h
  split at h
  · assumption
  · cases h
 have h1 : a0 < 17 := by
  unfold earshotref04_quarter.f at h
  rw [if_pos h0] at h
  split at h
  · assumption
  · cases h
 have HR : Aside0 (qTab.getD a0.toNat 0 = r) := by
  unfold earshotref04_quarter.f at h
  rw [if_pos h0, if_pos h1] at h
  exact ⟨Option.some.inj h⟩
 clear h
 have hu := Tryd.underlying89
 obtain ⟨j, rfl⟩ := Int.eq_ofNat_of_zero_le h0
 have hj : j < 17 := by omega
 clear h0 h1
 have hcell : ∀ W : World, (W.alloc (.cells #[.int .i64 16384, .int .i64 16305, .int .i64 16069, .int .i64 15679, .int .i64 15137, .int .i64 14449, .int .i64 13623, .int .i64 12665, .int .i64 11585, .int .i64 10394, .int .i64 9102, .int .i64 7723, .int .i64 6270, .int .i64 4756, .int .i64 3196, .int .i64 1606, .int .i64 0] 89)).cell? ⟨W.heap.size, j, none⟩ = some (.int .i64 (qTab.getD j 0)) := by
  intro W
  have hb := heap_alloc_new W (.cells #[.int .i64 16384, .int .i64 16305, .int .i64 16069, .int .i64 15679, .int .i64 15137, .int .i64 14449, .int .i64 13623, .int .i64 12665, .int .i64 11585, .int .i64 10394, .int .i64 9102, .int .i64 7723, .int .i64 6270, .int .i64 4756, .int .i64 3196, .int .i64 1606, .int .i64 0] 89)
  simp only [World.cell?, hb]
  show ((qTab.map (Value.int .i64)).toArray)[j]? = _
  have hl : j < qTab.length := hj
  rw [List.getElem?_toArray, List.getElem?_map, List.getElem?_eq_getElem hl, List.getD_eq_getElem?_getD, List.getElem?_eq_getElem hl]
  rfl
 obtain ⟨v, hv⟩ : ∃ v, qTab.getD j 0 = v := ⟨_, rfl⟩
 rw [Int.toNat_natCast, hv] at HR
 rw [hv] at hcell
 clear hv
 have hj1 : (j : Int) < 17 := by omega
 go_enter Tryd.func99, Tryd.ntmps99
 go_wp2
 all_goals
  go_ret
  exact ⟨by rw [← HR.out]; rfl, by repeat (first | exact Below.refl _ _ | apply below_alloc | apply pw_below_drewN)⟩
def earshotref04_Cos.f : Nat → Int → Option (Int)
 | 0, _ => none
 | k + 1, a0 => (earshotref04_Rest.f a0).bind fun t137 => (if t137 ≤ 16 then ((earshotref04_quarter.f t137).bind fun t138 => (some t138)) else (if t137 ≤ 32 then ((earshotref04_quarter.f (wrap64 (32 - t137))).bind fun t139 => (some (wrap64 (-t139)))) else ((earshotref04_Cos.f k (wrap64 (64 - t137))).bind fun t140 => (some t140))))
theorem earshotref04_Cos.mono_l : ∀ k, (∀ y0, LeO (earshotref04_Cos.f k y0) (earshotref04_Cos.f (k + 1) y0))
 | 0 => fun _ r h => by simp [earshotref04_Cos.f] at h
 | k + 1 => by
   have ih0 := earshotref04_Cos.mono_l k
   ·
    intro y0
    unfold earshotref04_Cos.f
    repeat' first
    | (with_reducible exact ih0 _)
    | (with_reducible exact LeO.refl _)
    | (with_reducible exact LeO.none _)
    | (with_reducible refine LeO.ite ?_ ?_)
    | (with_reducible refine LeO.bind ?_ (fun _ => ?_))
    | exact ih0 _
    | exact LeO.none _
    | refine LeO.ite ?_ ?_
    | refine LeO.bind ?_ (fun _ => ?_)
theorem earshotref04_Cos.mono : ∀ a0 k, LeO (earshotref04_Cos.f k a0) (earshotref04_Cos.f (k + 1) a0) := by
 intro a0 k
 have ih0 := earshotref04_Cos.mono_l k
 exact ih0 a0
set_option maxHeartbeats 8000000 in
set_option maxRecDepth 100000 in
theorem earshotref04_Cos.calls (k : Nat) : ∀ (a0 : Int) (r : Int) (w : World) (h : earshotref04_Cos.f k a0 = some r),
  Calls Tryd.prog 71 #[.int .i64 a0] w fun e w' => e = .returned (.int .i64 r) ∧ Below w.heap.size w w' := by
 induction k using Nat.strongRecOn with
 | _ k ih =>
 intro a0 r w h
 cases k with
 | zero => exact absurd h (by simp [earshotref04_Cos.f])
 | succ k =>
 simp only [earshotref04_Cos.f] at h
 have HB := Aside0.mk (Below.refl w.heap.size w)
 have H : ((earshotref04_Rest.f a0).bind fun t137 => (if t137 ≤ 16 then ((earshotref04_quarter.f t137).bind fun t138 => (some t138)) else (if t137 ≤ 32 then ((earshotref04_quarter.f (wrap64 (32 - t137))).bind fun t139 => (some (wrap64 (-t139)))) else ((earshotref04_Cos.f k (wrap64 (64 - t137))).bind fun t140 => (some t140))))) = some r := h
 clear h
 replace H := Option.bind_eq_some_iff.mp H
 obtain ⟨t137, A20, H⟩ := H
 replace H : (if t137 ≤ 16 then ((earshotref04_quarter.f t137).bind fun t138 => (some t138)) else (if t137 ≤ 32 then ((earshotref04_quarter.f (wrap64 (32 - t137))).bind fun t139 => (some (wrap64 (-t139)))) else ((earshotref04_Cos.f k (wrap64 (64 - t137))).bind fun t140 => (some t140)))) = some r := H
 have A2 := Aside0.mk A20
 clear A20
 by_cases c3 : t137 ≤ 16
 ·
  rw [if_pos c3] at H
  have c3b0 : decide (t137 ≤ 16) = true := decide_eq_true c3
  clear c3
  replace H := Option.bind_eq_some_iff.mp H
  obtain ⟨t138, A40, H⟩ := H
  replace H : (some t138) = some r := H
  have A4 := Aside0.mk A40
  clear A40
  obtain rfl := Option.some.inj H
  go_enter Tryd.func71, Tryd.ntmps71
  go_wp2_with (first | ((with_reducible refine gate_callee (f := 98) rfl ?_); refine goesL_ (some 5) rfl rfl Tryd.func98 (by kernel_rfl) rfl #[.int .i64 a0] rfl (by (try simp only [List.map_toArray, List.map_cons, List.map_nil]); first | done | rfl | (simp only [List.length_drop, List.length_take]; rfl)) ?_; (with_reducible refine (earshotref04_Rest.calls a0 t137 _ A2.out).mono ?_); rintro e w' ⟨rfl, ⟨nd, rfl⟩⟩; refine ⟨_, rfl, ?_⟩) | ((with_reducible refine gate_callee (f := 99) rfl ?_); refine goesL_ (some 9) rfl rfl Tryd.func99 (by kernel_rfl) rfl #[.int .i64 t137] rfl (by (try simp only [List.map_toArray, List.map_cons, List.map_nil]); first | done | rfl | (simp only [List.length_drop, List.length_take]; rfl)) ?_; (with_reducible refine (earshotref04_quarter.calls t137 t138 _ A4.out).mono ?_); rintro e w5 ⟨rfl, hb⟩; refine ⟨_, rfl, ?_⟩; have n0_ := Aside0.mk (below_step (by repeat (first | (with_reducible first | exact HB.out | apply below_alloc | apply pw_below_drewN | apply below_drew1) | exact HB.out)) hb); clear HB; have HB := n0_; clear n0_; (try clear hb); (try clear hb2); (try clear hk); (try clear hi)))
  go_ret
  exact ⟨by first | rfl | (simp [errW_none, errW_some] <;> rfl) | (simp [*, errW_none, errW_some] <;> rfl), by repeat (first | (with_reducible first | exact HB.out | apply below_alloc | apply pw_below_drewN | apply below_drew1) | exact HB.out)⟩
 ·
  rw [if_neg c3] at H
  have c3b0 : decide (t137 ≤ 16) = false := decide_eq_false c3
  clear c3
  by_cases c6 : t137 ≤ 32
  ·
   rw [if_pos c6] at H
   have c6b0 : decide (t137 ≤ 32) = true := decide_eq_true c6
   clear c6
   replace H := Option.bind_eq_some_iff.mp H
   obtain ⟨t139, A70, H⟩ := H
   replace H : (some (wrap64 (-t139))) = some r := H
   have A7 := Aside0.mk A70
   clear A70
   obtain rfl := Option.some.inj H
   go_enter Tryd.func71, Tryd.ntmps71
   go_wp2_with (first | ((with_reducible refine gate_callee (f := 98) rfl ?_); refine goesL_ (some 5) rfl rfl Tryd.func98 (by kernel_rfl) rfl #[.int .i64 a0] rfl (by (try simp only [List.map_toArray, List.map_cons, List.map_nil]); first | done | rfl | (simp only [List.length_drop, List.length_take]; rfl)) ?_; (with_reducible refine (earshotref04_Rest.calls a0 t137 _ A2.out).mono ?_); rintro e w' ⟨rfl, ⟨nd, rfl⟩⟩; refine ⟨_, rfl, ?_⟩) | ((with_reducible refine gate_callee (f := 99) rfl ?_); refine goesL_ (some 14) rfl rfl Tryd.func99 (by kernel_rfl) rfl #[.int .i64 (wrap64 (32 - t137))] rfl (by (try simp only [List.map_toArray, List.map_cons, List.map_nil]); first | done | rfl | (simp only [List.length_drop, List.length_take]; rfl)) ?_; (with_reducible refine (earshotref04_quarter.calls (wrap64 (32 - t137)) t139 _ A7.out).mono ?_); rintro e w8 ⟨rfl, hb⟩; refine ⟨_, rfl, ?_⟩; have n0_ := Aside0.mk (below_step (by repeat (first | (with_reducible first | exact HB.out | apply below_alloc | apply pw_below_drewN | apply below_drew1) | exact HB.out)) hb); clear HB; have HB := n0_; clear n0_; (try clear hb); (try clear hb2); (try clear hk); (try clear hi)))
   go_ret
   exact ⟨by first | rfl | (simp [errW_none, errW_some] <;> rfl) | (simp [*, errW_none, errW_some] <;> rfl), by repeat (first | (with_reducible first | exact HB.out | apply below_alloc | apply pw_below_drewN | apply below_drew1) | exact HB.out)⟩
  ·
   rw [if_neg c6] at H
   have c6b0 : decide (t137 ≤ 32) = false := decide_eq_false c6
   clear c6
   replace H := Option.bind_eq_some_iff.mp H
   obtain ⟨t140, A90, H⟩ := H
   replace H : (some t140) = some r := H
   have A9 := Aside0.mk A90
   clear A90
   obtain rfl := Option.some.inj H
   go_enter Tryd.func71, Tryd.ntmps71
   go_wp2_with (first | ((with_reducible refine gate_callee (f := 98) rfl ?_); refine goesL_ (some 5) rfl rfl Tryd.func98 (by kernel_rfl) rfl #[.int .i64 a0] rfl (by (try simp only [List.map_toArray, List.map_cons, List.map_nil]); first | done | rfl | (simp only [List.length_drop, List.length_take]; rfl)) ?_; (with_reducible refine (earshotref04_Rest.calls a0 t137 _ A2.out).mono ?_); rintro e w' ⟨rfl, ⟨nd, rfl⟩⟩; refine ⟨_, rfl, ?_⟩) | ((with_reducible refine gate_callee (f := 71) rfl ?_); refine goesL_ (some 18) rfl rfl Tryd.func71 (by kernel_rfl) rfl #[.int .i64 (wrap64 (64 - t137))] rfl (by (try simp only [List.map_toArray, List.map_cons, List.map_nil]); first | done | rfl | (simp only [List.length_drop, List.length_take]; rfl)) ?_; (with_reducible refine (ih k (by omega) (wrap64 (64 - t137)) t140 _ A9.out).mono ?_); rintro e w10 ⟨rfl, hb⟩; refine ⟨_, rfl, ?_⟩; have n0_ := Aside0.mk (below_step (by repeat (first | (with_reducible first | exact HB.out | apply below_alloc | apply pw_below_drewN | apply below_drew1) | exact HB.out)) hb); clear HB; have HB := n0_; clear n0_; (try clear hb); (try clear hb2); (try clear hk); (try clear hi)))
   go_ret
   exact ⟨by first | rfl | (simp [errW_none, errW_some] <;> rfl) | (simp [*, errW_none, errW_some] <;> rfl), by repeat (first | (with_reducible first | exact HB.out | apply below_alloc | apply pw_below_drewN | apply below_drew1) | exact HB.out)⟩
mutual
def earshotref12_Row.j0 : Nat → Int → Int → Bool → Option (List Int)
 | 0, _, _, _ => none
 | k + 1, x0, x1, x20 => if x20 = true then (some ([] : List Int)) else (earshotref12_Row.l0 k x0 x1 ([] : List Int) 0)
def earshotref12_Row.l0 : Nat → Int → Int → List Int → Int → Option (List Int)
 | 0, _, _, _, _ => none
 | k + 1, x0, x1, x6, x7 => if x7 < x1 then (if x1 = 0 then (none) else ((earshotref04_Cos.f k (wrap64 (Int.tdiv (wrap64 ((wrap64 (x0 * (wrap64 ((wrap64 (2 * x7)) + 1)))) * 16)) x1))).bind fun t142 => (if x6.length < 17592186044416 then (earshotref12_Row.l0 k x0 x1 (x6 ++ [t142]) (wrap64 (x7 + 1))) else (none)))) else (some x6)
end
def earshotref12_Row.f (k : Nat) (a0 : Int) (a1 : Int) : Option (List Int) := (earshotref12_May.f a1).bind fun t141 => (if t141 = true then (if a0 < 0 then (earshotref12_Row.j0 k a0 a1 true) else (earshotref12_Row.j0 k a0 a1 (decide (a0 ≥ a1)))) else (earshotref12_Row.j0 k a0 a1 true))
theorem earshotref12_Row.mono_l : ∀ k, (∀ y0 y1 y2, LeO (earshotref12_Row.j0 k y0 y1 y2) (earshotref12_Row.j0 (k + 1) y0 y1 y2)) ∧ (∀ y0 y1 y2 y3, LeO (earshotref12_Row.l0 k y0 y1 y2 y3) (earshotref12_Row.l0 (k + 1) y0 y1 y2 y3))
 | 0 => ⟨fun _ _ _ r h => by simp [earshotref12_Row.j0] at h, fun _ _ _ _ r h => by simp [earshotref12_Row.l0] at h⟩
 | k + 1 => by
   obtain ⟨ih0, ih1⟩ := earshotref12_Row.mono_l k
   refine ⟨?_, ?_⟩
   ·
    intro y0 y1 y2
    unfold earshotref12_Row.j0
    repeat' first
    | (with_reducible exact ih0 _ _ _)
    | (with_reducible exact ih1 _ _ _ _)
    | (with_reducible exact earshotref04_Cos.mono _ _)
    | (with_reducible exact LeO.refl _)
    | (with_reducible exact LeO.none _)
    | (with_reducible refine LeO.ite ?_ ?_)
    | (with_reducible refine LeO.bind ?_ (fun _ => ?_))
    | exact ih0 _ _ _
    | exact ih1 _ _ _ _
    | exact earshotref04_Cos.mono _ _
    | exact LeO.none _
    | refine LeO.ite ?_ ?_
    | refine LeO.bind ?_ (fun _ => ?_)
   ·
    intro y0 y1 y2 y3
    unfold earshotref12_Row.l0
    repeat' first
    | (with_reducible exact ih0 _ _ _)
    | (with_reducible exact ih1 _ _ _ _)
    | (with_reducible exact earshotref04_Cos.mono _ _)
    | (with_reducible exact LeO.refl _)
    | (with_reducible exact LeO.none _)
    | (with_reducible refine LeO.ite ?_ ?_)
    | (with_reducible refine LeO.bind ?_ (fun _ => ?_))
    | exact ih0 _ _ _
    | exact ih1 _ _ _ _
    | exact earshotref04_Cos.mono _ _
    | exact LeO.none _
    | refine LeO.ite ?_ ?_
    | refine LeO.bind ?_ (fun _ => ?_)
theorem earshotref12_Row.mono : ∀ a0 a1 k, LeO (earshotref12_Row.f k a0 a1) (earshotref12_Row.f (k + 1) a0 a1) := by
 intro a0 a1 k
 obtain ⟨ih0, ih1⟩ := earshotref12_Row.mono_l k
 unfold earshotref12_Row.f
 repeat' first
   | (with_reducible exact ih0 _ _ _)
   | (with_reducible exact ih1 _ _ _ _)
   | (with_reducible exact earshotref04_Cos.mono _ _)
   | (with_reducible exact LeO.refl _)
   | (with_reducible exact LeO.none _)
   | (with_reducible refine LeO.ite ?_ ?_)
   | (with_reducible refine LeO.bind ?_ (fun _ => ?_))
   | exact ih0 _ _ _
   | exact ih1 _ _ _ _
   | exact earshotref04_Cos.mono _ _
   | exact LeO.none _
   | refine LeO.ite ?_ ?_
   | refine LeO.bind ?_ (fun _ => ?_)
set_option maxHeartbeats 8000000 in
set_option maxRecDepth 100000 in
theorem earshotref12_Row.calls (k : Nat) (a0 : Int) (a1 : Int) (r : List Int) (w : World) (h : earshotref12_Row.f k a0 a1 = some r) :
  Calls Tryd.prog 42 #[.int .i64 a0, .int .i64 a1] w fun e w' => ∃ v0_ : Value, e = .returned (v0_) ∧ Kd.R (Kd.int .i64) 3 w' w.heap.size (fun _ => True) v0_ r ∧ Below w.heap.size w w' := by
 have HB := Aside0.mk (Below.refl w.heap.size w)
 have H : ((earshotref12_May.f a1).bind fun t141 => (if t141 = true then (if a0 < 0 then (earshotref12_Row.j0 k a0 a1 true) else (earshotref12_Row.j0 k a0 a1 (decide (a0 ≥ a1)))) else (earshotref12_Row.j0 k a0 a1 true))) = some r := h
 clear h
 replace H := Option.bind_eq_some_iff.mp H
 obtain ⟨t141, A30, H⟩ := H
 replace H : (if t141 = true then (if a0 < 0 then (earshotref12_Row.j0 k a0 a1 true) else (earshotref12_Row.j0 k a0 a1 (decide (a0 ≥ a1)))) else (earshotref12_Row.j0 k a0 a1 true)) = some r := H
 have A3 := Aside0.mk A30
 clear A30
 have HC4 := Aside0.mk H
 clear H
 go_enter Tryd.func42, Tryd.ntmps42
 go_upto_region 2 with (first | ((with_reducible refine gate_callee (f := 61) rfl ?_); refine goesL_ (some 9) rfl rfl Tryd.func61 (by kernel_rfl) rfl #[.int .i64 a1] rfl (by (try simp only [List.map_toArray, List.map_cons, List.map_nil]); first | done | rfl | (simp only [List.length_drop, List.length_take]; rfl)) ?_; (with_reducible refine (earshotref12_May.calls a1 t141 _ A3.out).mono ?_); rintro e w' ⟨rfl, ⟨nd, rfl⟩⟩; refine ⟨_, rfl, ?_⟩))
 (try simp only [Act.put, List.setIfInBounds_toArray, List.set_cons_zero, List.set_cons_succ])
 go_cut [20] (fun v20 wc => ∃ (kq : Nat) (x20_3 : Bool), v20 = .bool x20_3 ∧ Aside0 (earshotref12_Row.j0 kq a0 a1 x20_3 = some r) ∧ Aside0 (kq ≤ k) ∧ Aside0 (Below w.heap.size w wc))
 case first =>
  have H := HC4.out
  clear HC4
  by_cases c5 : t141 = true
  ·
   subst c5
   have H1 : (if a0 < 0 then (earshotref12_Row.j0 k a0 a1 true) else (earshotref12_Row.j0 k a0 a1 (decide (a0 ≥ a1)))) = some r := by rw [if_pos rfl] at H; exact H
   clear H
   have H := H1
   clear H1
   by_cases c6 : a0 < 0
   ·
    rw [if_pos c6] at H
    have c6b0 : decide (a0 < 0) = true := decide_eq_true c6
    clear c6
    (first | rw [c6b0] | (simp only [i64_w, i32_w]; rw [c6b0]) | skip)
    have H' := Aside0.mk H
    clear H
    go_wp2
    go_meet
    case rel => exact ⟨_, (true), (by first | rfl | (simp; done) | (simp [*]; done)), H', ⟨by first | omega | exact Nat.le_refl _⟩, ⟨by repeat (first | (with_reducible first | exact HB.out | apply below_alloc | apply pw_below_drewN | apply below_drew1) | exact HB.out)⟩⟩
   ·
    rw [if_neg c6] at H
    have c6b0 : decide (a0 < 0) = false := decide_eq_false c6
    clear c6
    (first | rw [c6b0] | (simp only [i64_w, i32_w]; rw [c6b0]) | skip)
    have H' := Aside0.mk H
    clear H
    go_wp2
    go_meet
    case rel => exact ⟨_, (decide (a0 ≥ a1)), (by first | rfl | (simp; done) | (simp [*]; done)), H', ⟨by first | omega | exact Nat.le_refl _⟩, ⟨by repeat (first | (with_reducible first | exact HB.out | apply below_alloc | apply pw_below_drewN | apply below_drew1) | exact HB.out)⟩⟩
  ·
   replace c5 := Bool.eq_false_iff.mpr c5
   subst c5
   have H1 : (earshotref12_Row.j0 k a0 a1 true) = some r := by rw [if_neg (show ¬ (false = true) by decide)] at H; exact H
   clear H
   have H := H1
   clear H1
   have H' := Aside0.mk H
   clear H
   go_wp2
   go_meet
   case rel => exact ⟨_, (true), (by first | rfl | (simp; done) | (simp [*]; done)), H', ⟨by first | omega | exact Nat.le_refl _⟩, ⟨by repeat (first | (with_reducible first | exact HB.out | apply below_alloc | apply pw_below_drewN | apply below_drew1) | exact HB.out)⟩⟩
 case rest =>
  clear HC4
  try clear p2
  try clear c4
  try clear c5
  try clear c6
  try clear c6b0
  obtain ⟨kq, x20_3, rfl, HA, HJ3, HB⟩ := hcut
  cases kq with
  | zero => exact absurd HA.out (by simp [earshotref12_Row.j0])
  | succ kj3 =>
    have H := HA.out
    clear HA
    simp only [earshotref12_Row.j0] at H
    by_cases c7 : x20_3 = true
    ·
     subst c7
     have H1 : (some ([] : List Int)) = some r := by rw [if_pos rfl] at H; exact H
     clear H
     have H := H1
     clear H1
     obtain rfl := Option.some.inj H
     go_wp2
     go_ret
     exact ⟨_, by first | rfl | (simp [errW_none, errW_some] <;> rfl) | (simp [*, errW_none, errW_some] <;> rfl), by first | exact Kd.R_nil _ _ _ _ _ | exact Kd.N_nil _ _ _ _ _ | exact Kd.V_nil _ _ _ _ _ | exact Kd.Q_nil _ _ _ _ _ | exact Kd.S_nil _ _ _ _ _, by repeat (first | (with_reducible first | exact HB.out | apply below_alloc | apply pw_below_drewN | apply below_drew1) | exact HB.out)⟩
    ·
     replace c7 := Bool.eq_false_iff.mpr c7
     subst c7
     have H1 : (earshotref12_Row.l0 kj3 a0 a1 ([] : List Int) 0) = some r := by rw [if_neg (show ¬ (false = true) by decide)] at H; exact H
     clear H
     have H := H1
     clear H1
     have H' := Aside0.mk H
     clear H
     go_wp2
     go_loopg [6, 7] kj3 (fun kq v6 v7 w' => ∃ (x6_2 : List Int) (x7_2 : Int), v7 = .int .i64 x7_2 ∧ Aside0 (earshotref12_Row.l0 kq a0 a1 x6_2 x7_2 = some r) ∧ Aside0 (kq ≤ kj3) ∧ Aside0 (Kd.R (Kd.int .i64) 3 w' w.heap.size (fun _ => True) v6 x6_2) ∧ Aside0 (Below w.heap.size w w'))
     case atStart => exact ⟨(([] : List Int)), (0), (by first | rfl | (simp; done) | (simp [*]; done)), H', ⟨Nat.le_refl _⟩, ⟨by first | exact Kd.R_nil _ _ _ _ _ | exact Kd.N_nil _ _ _ _ _ | exact Kd.V_nil _ _ _ _ _ | exact Kd.Q_nil _ _ _ _ _ | exact Kd.S_nil _ _ _ _ _⟩, ⟨by repeat (first | (with_reducible first | exact HB.out | apply below_alloc | apply pw_below_drewN | apply below_drew1) | exact HB.out)⟩⟩
     case round =>
      clear H'
      try clear p2
      try clear c4
      try clear c5
      try clear c6
      try clear c6b0
      try clear c7
      try clear p2
      obtain ⟨x6_2, x7_2, rfl, HA, HK2, HO_6, HB⟩ := hrel
      cases gk with
      | zero => exact absurd HA.out (by simp [earshotref12_Row.l0])
      | succ k2 =>
        have H := HA.out
        clear HA
        simp only [earshotref12_Row.l0] at H
        by_cases c8 : x7_2 < a1
        ·
         rw [if_pos c8] at H
         have c8b0 : decide (x7_2 < a1) = true := decide_eq_true c8
         clear c8
         by_cases c9 : a1 = 0
         ·
          rw [if_pos c9] at H
          exact absurd H (by simp)
         ·
          rw [if_neg c9] at H
          have c9b0 : (a1 == 0) = false := beq_eq_false_iff_ne.mpr c9
          have c9b1 : (a1 != 0) = true := bne_iff_ne.mpr c9
          replace H := Option.bind_eq_some_iff.mp H
          obtain ⟨t142, A100, H⟩ := H
          replace H : (if x6_2.length < 17592186044416 then (earshotref12_Row.l0 k2 a0 a1 (x6_2 ++ [t142]) (wrap64 (x7_2 + 1))) else (none)) = some r := H
          have A10 := Aside0.mk A100
          clear A100
          by_cases c11 : x6_2.length < 17592186044416
          ·
           rw [if_pos c11] at H
           have LMc11 := Aside0.mk c11
           clear c11
           obtain ⟨y143, hy143⟩ : ∃ y_ : List Int, y_ = (x6_2 ++ [t142]) := ⟨_, rfl⟩
           replace H : (earshotref12_Row.l0 k2 a0 a1 y143 (wrap64 (x7_2 + 1))) = some r := by first | (rw [hy143]; with_reducible exact H) | (have H2_ := (Option.bind_some _ _).symm.trans H; rw [hy143]; with_reducible exact H2_) | (have H2_ := (Option.bind_some _ _).symm.trans H; with_reducible exact H2_) | with_reducible exact H | (rw [hy143]; exact H) | exact H
           have Ny143 := Aside0.mk hy143
           clear hy143
           have H' := Aside0.mk H
           clear H
           go_wp2_with (first | ((with_reducible refine gate_callee (f := 71) rfl ?_); refine goesL_ (some 35) rfl rfl Tryd.func71 (by kernel_rfl) rfl #[.int .i64 (wrap64 (Int.tdiv (wrap64 ((wrap64 (a0 * (wrap64 ((wrap64 (2 * x7_2)) + 1)))) * 16)) a1))] rfl (by (try simp only [List.map_toArray, List.map_cons, List.map_nil]); first | done | rfl | (simp only [List.length_drop, List.length_take]; rfl)) ?_; (with_reducible refine (earshotref04_Cos.calls k2 (wrap64 (Int.tdiv (wrap64 ((wrap64 (a0 * (wrap64 ((wrap64 (2 * x7_2)) + 1)))) * 16)) a1)) t142 _ A10.out).mono ?_); rintro e w12 ⟨rfl, hb⟩; refine ⟨_, rfl, ?_⟩; have n0_ := Aside0.mk (Kd.R_below (by (with_reducible repeat (first | apply Kd.R_alloc | apply Kd.R_drewN | apply Kd.R_drew)); (first | exact HO_6.out | exact Kd.R_mono HO_6.out (fun _ _ => trivial) | exact Kd.R_mono HO_6.out (fun _ hk => hk.1))) hb); have n1_ := Aside0.mk (below_step (by repeat (first | (with_reducible first | exact HB.out | apply below_alloc | apply pw_below_drewN | apply below_drew1) | exact HB.out)) hb); clear HO_6; clear HB; have HO_6 := n0_; have HB := n1_; clear n0_ n1_; (try clear hb); (try clear hb2); (try clear hk); (try clear hi)) | ((with_reducible refine gate_builtin (b := .append) (xs := #[.tmp 26, .tmp 36]) rfl ?_); at_builtin; refine Kd.R_append (Kd.int .i64) (w0 := w) w.heap.size rfl (.tmp 26) (.tmp 36) 22 3 (.int .i64 0) 8 rfl Tryd.underlying22 info3 rfl (by decide) (by omega) u6 x6_2 t142 [.int .i64 t142] (fun _ => True) (fun _ => False) rfl rfl ?aP (fun _ hk => hk.elim) ?aF ?aO ?aB ?aS ?aL ?_; (case aP => exact rfl); (case aB => exact (by repeat (first | (with_reducible first | exact HB.out | apply below_alloc | apply pw_below_drewN | apply below_drew1) | exact HB.out))); (case aF => exact (fun _ _ => trivial)); (case aO => exact (by (with_reducible repeat (first | apply Kd.R_alloc | apply Kd.R_drewN | apply Kd.R_drew)); (first | exact HO_6.out | exact Kd.R_mono HO_6.out (fun _ _ => trivial) | exact Kd.R_mono HO_6.out (fun _ hk => hk.1)))); (case aS => exact (below_size (by repeat (first | (with_reducible first | exact HB.out | apply below_alloc | apply pw_below_drewN | apply below_drew1) | exact HB.out)))); (case aL => have := LMc11.out; omega); intro v144 w13 ho hb hg hat; rw [← Ny143.out] at ho; have n0_ := Aside0.mk (hb); have n1_ := Aside0.mk (ho); clear HB; clear HO_6; have HB := n0_; have HO145 := n1_; clear n0_ n1_; clear ho hb hg hat))
           go_roundg k2
           case measure => have := HJ3.out; have := HK2.out; omega
           case rel => exact ⟨(y143), (wrap64 (x7_2 + 1)), (by first | rfl | (simp; done) | (simp [*]; done)), H', ⟨by have := HJ3.out; have := HK2.out; omega⟩, ⟨by (with_reducible repeat (first | apply Kd.R_alloc | apply Kd.R_drewN | apply Kd.R_drew)); exact HO145.out⟩, ⟨by repeat (first | (with_reducible first | exact HB.out | apply below_alloc | apply pw_below_drewN | apply below_drew1) | exact HB.out)⟩⟩
          ·
           rw [if_neg c11] at H
           exact absurd H (by simp)
        ·
         rw [if_neg c8] at H
         have c8b0 : decide (x7_2 < a1) = false := decide_eq_false c8
         clear c8
         obtain rfl := Option.some.inj H
         go_wp2
         go_ret
         exact ⟨_, by first | rfl | (simp [errW_none, errW_some] <;> rfl) | (simp [*, errW_none, errW_some] <;> rfl), by (with_reducible repeat (first | apply Kd.R_alloc | apply Kd.R_drewN | apply Kd.R_drew)); exact HO_6.out, by repeat (first | (with_reducible first | exact HB.out | apply below_alloc | apply pw_below_drewN | apply below_drew1) | exact HB.out)⟩
def earshotref02_Div.f (a0 : Int) (a1 : Int) : Option (Int) := if a1 < 1 then (some 0) else ((earshotref02_Quot.f a0 a1).bind fun t146 => ((earshotref02_Rest.f a0 a1).bind fun t147 => (if t147 ≥ (wrap64 (a1 - t147)) then (some (wrap64 (t146 + 1))) else (some t146))))
set_option maxHeartbeats 8000000 in
set_option maxRecDepth 100000 in
theorem earshotref02_Div.calls (a0 : Int) (a1 : Int) (r : Int) (w : World) (h : earshotref02_Div.f a0 a1 = some r) :
  Calls Tryd.prog 85 #[.int .i64 a0, .int .i64 a1] w fun e w' => e = .returned (.int .i64 r) ∧ Drawn0 w w' := by
 have H : (if a1 < 1 then (some 0) else ((earshotref02_Quot.f a0 a1).bind fun t146 => ((earshotref02_Rest.f a0 a1).bind fun t147 => (if t147 ≥ (wrap64 (a1 - t147)) then (some (wrap64 (t146 + 1))) else (some t146))))) = some r := h
 clear h
 by_cases c3 : a1 < 1
 ·
  rw [if_pos c3] at H
  have c3b0 : decide (a1 < 1) = true := decide_eq_true c3
  clear c3
  obtain rfl := Option.some.inj H
  go_enter Tryd.func85, Tryd.ntmps85
  go_wp2
  go_ret
  exact ⟨by first | rfl | (simp; done) | (simp [*]; done), by repeat (first | exact Drawn0.refl _ | apply Drawn0.step)⟩
 ·
  rw [if_neg c3] at H
  have c3b0 : decide (a1 < 1) = false := decide_eq_false c3
  clear c3
  replace H := Option.bind_eq_some_iff.mp H
  obtain ⟨t146, A40, H⟩ := H
  replace H : ((earshotref02_Rest.f a0 a1).bind fun t147 => (if t147 ≥ (wrap64 (a1 - t147)) then (some (wrap64 (t146 + 1))) else (some t146))) = some r := H
  have A4 := Aside0.mk A40
  clear A40
  replace H := Option.bind_eq_some_iff.mp H
  obtain ⟨t147, A50, H⟩ := H
  replace H : (if t147 ≥ (wrap64 (a1 - t147)) then (some (wrap64 (t146 + 1))) else (some t146)) = some r := H
  have A5 := Aside0.mk A50
  clear A50
  by_cases c6 : t147 ≥ (wrap64 (a1 - t147))
  ·
   rw [if_pos c6] at H
   have c6b0 : decide ((wrap64 (a1 - t147)) ≤ t147) = true := decide_eq_true c6
   clear c6
   obtain rfl := Option.some.inj H
   go_enter Tryd.func85, Tryd.ntmps85
   go_wp2_with (first | ((with_reducible refine gate_callee (f := 93) rfl ?_); refine goesL_ (some 11) rfl rfl Tryd.func93 (by kernel_rfl) rfl #[.int .i64 a0, .int .i64 a1] rfl (by (try simp only [List.map_toArray, List.map_cons, List.map_nil]); first | done | rfl | (simp only [List.length_drop, List.length_take]; rfl)) ?_; (with_reducible refine (earshotref02_Quot.calls a0 a1 t146 _ A4.out).mono ?_); rintro e w' ⟨rfl, ⟨nd, rfl⟩⟩; refine ⟨_, rfl, ?_⟩) | ((with_reducible refine gate_callee (f := 107) rfl ?_); refine goesL_ (some 14) rfl rfl Tryd.func107 (by kernel_rfl) rfl #[.int .i64 a0, .int .i64 a1] rfl (by (try simp only [List.map_toArray, List.map_cons, List.map_nil]); first | done | rfl | (simp only [List.length_drop, List.length_take]; rfl)) ?_; (with_reducible refine (earshotref02_Rest.calls a0 a1 t147 _ A5.out).mono ?_); rintro e w' ⟨rfl, ⟨nd, rfl⟩⟩; refine ⟨_, rfl, ?_⟩))
   go_ret
   exact ⟨by first | rfl | (simp; done) | (simp [*]; done), by repeat (first | exact Drawn0.refl _ | apply Drawn0.step)⟩
  ·
   rw [if_neg c6] at H
   have c6b0 : decide ((wrap64 (a1 - t147)) ≤ t147) = false := decide_eq_false c6
   clear c6
   obtain rfl := Option.some.inj H
   go_enter Tryd.func85, Tryd.ntmps85
   go_wp2_with (first | ((with_reducible refine gate_callee (f := 93) rfl ?_); refine goesL_ (some 11) rfl rfl Tryd.func93 (by kernel_rfl) rfl #[.int .i64 a0, .int .i64 a1] rfl (by (try simp only [List.map_toArray, List.map_cons, List.map_nil]); first | done | rfl | (simp only [List.length_drop, List.length_take]; rfl)) ?_; (with_reducible refine (earshotref02_Quot.calls a0 a1 t146 _ A4.out).mono ?_); rintro e w' ⟨rfl, ⟨nd, rfl⟩⟩; refine ⟨_, rfl, ?_⟩) | ((with_reducible refine gate_callee (f := 107) rfl ?_); refine goesL_ (some 14) rfl rfl Tryd.func107 (by kernel_rfl) rfl #[.int .i64 a0, .int .i64 a1] rfl (by (try simp only [List.map_toArray, List.map_cons, List.map_nil]); first | done | rfl | (simp only [List.length_drop, List.length_take]; rfl)) ?_; (with_reducible refine (earshotref02_Rest.calls a0 a1 t147 _ A5.out).mono ?_); rintro e w' ⟨rfl, ⟨nd, rfl⟩⟩; refine ⟨_, rfl, ?_⟩))
   go_ret
   exact ⟨by first | rfl | (simp; done) | (simp [*]; done), by repeat (first | exact Drawn0.refl _ | apply Drawn0.step)⟩
def earshotref02_power.l0 : Nat → Int → Int → Int → Option (Int)
 | 0, _, _, _ => none
 | k + 1, x0, x3, x4 => if x4 < x0 then (earshotref02_power.l0 k x0 (wrap64 (x3 * 2)) (wrap64 (x4 + 1))) else (some x3)
def earshotref02_power.f (k : Nat) (a0 : Int) : Option (Int) := earshotref02_power.l0 k a0 1 0
theorem earshotref02_power.mono_l : ∀ k, (∀ y0 y1 y2, LeO (earshotref02_power.l0 k y0 y1 y2) (earshotref02_power.l0 (k + 1) y0 y1 y2))
 | 0 => fun _ _ _ r h => by simp [earshotref02_power.l0] at h
 | k + 1 => by
   have ih0 := earshotref02_power.mono_l k
   ·
    intro y0 y1 y2
    unfold earshotref02_power.l0
    repeat' first
    | (with_reducible exact ih0 _ _ _)
    | (with_reducible exact LeO.refl _)
    | (with_reducible exact LeO.none _)
    | (with_reducible refine LeO.ite ?_ ?_)
    | (with_reducible refine LeO.bind ?_ (fun _ => ?_))
    | exact ih0 _ _ _
    | exact LeO.none _
    | refine LeO.ite ?_ ?_
    | refine LeO.bind ?_ (fun _ => ?_)
theorem earshotref02_power.mono : ∀ a0 k, LeO (earshotref02_power.f k a0) (earshotref02_power.f (k + 1) a0) := by
 intro a0 k
 have ih0 := earshotref02_power.mono_l k
 unfold earshotref02_power.f
 repeat' first
   | (with_reducible exact ih0 _ _ _)
   | (with_reducible exact LeO.refl _)
   | (with_reducible exact LeO.none _)
   | (with_reducible refine LeO.ite ?_ ?_)
   | (with_reducible refine LeO.bind ?_ (fun _ => ?_))
   | exact ih0 _ _ _
   | exact LeO.none _
   | refine LeO.ite ?_ ?_
   | refine LeO.bind ?_ (fun _ => ?_)
set_option maxHeartbeats 8000000 in
set_option maxRecDepth 100000 in
theorem earshotref02_power.calls (k : Nat) (a0 : Int) (r : Int) (w : World) (h : earshotref02_power.f k a0 = some r) :
  Calls Tryd.prog 86 #[.int .i64 a0] w fun e w' => e = .returned (.int .i64 r) ∧ Drawn0 w w' := by
 have H : (earshotref02_power.l0 k a0 1 0) = some r := h
 clear h
 have H' := Aside0.mk H
 clear H
 go_enter Tryd.func86, Tryd.ntmps86
 go_wp2
 go_loopg [3, 4] k (fun kq v3 v4 w' => ∃ (x3_1 : Int) (x4_1 : Int), v3 = .int .i64 x3_1 ∧ v4 = .int .i64 x4_1 ∧ Aside0 (earshotref02_power.l0 kq a0 x3_1 x4_1 = some r) ∧ Aside0 (kq ≤ k) ∧ Drawn0 w w')
 case atStart => exact ⟨(1), (0), (by first | rfl | (simp; done) | (simp [*]; done)), (by first | rfl | (simp; done) | (simp [*]; done)), H', ⟨Nat.le_refl _⟩, by repeat (first | exact Drawn0.refl _ | apply Drawn0.step)⟩
 case round =>
  clear H'
  obtain ⟨x3_1, x4_1, rfl, rfl, HA, HK1, ⟨m1, rfl⟩⟩ := hrel
  cases gk with
  | zero => exact absurd HA.out (by simp [earshotref02_power.l0])
  | succ k1 =>
    have H := HA.out
    clear HA
    simp only [earshotref02_power.l0] at H
    by_cases c2 : x4_1 < a0
    ·
     rw [if_pos c2] at H
     have c2b0 : decide (x4_1 < a0) = true := decide_eq_true c2
     clear c2
     have H' := Aside0.mk H
     clear H
     go_wp2
     go_roundg k1
     case measure => have := HK1.out; omega
     case rel => exact ⟨(wrap64 (x3_1 * 2)), (wrap64 (x4_1 + 1)), (by first | rfl | (simp; done) | (simp [*]; done)), (by first | rfl | (simp; done) | (simp [*]; done)), H', ⟨by have := HK1.out; omega⟩, by repeat (first | exact Drawn0.refl _ | apply Drawn0.step)⟩
    ·
     rw [if_neg c2] at H
     have c2b0 : decide (x4_1 < a0) = false := decide_eq_false c2
     clear c2
     obtain rfl := Option.some.inj H
     go_wp2
     go_ret
     exact ⟨by first | rfl | (simp; done) | (simp [*]; done), by repeat (first | exact Drawn0.refl _ | apply Drawn0.step)⟩
def earshotref02_Half.j0 : Nat → Int → Int → Bool → Option (Int)
 | 0, _, _, _ => none
 | k + 1, x0, x1, x10 => if x10 = true then (some 0) else ((earshotref02_power.f k x1).bind fun t148 => ((earshotref02_Div.f x0 t148).bind fun t149 => (some t149)))
def earshotref02_Half.f (k : Nat) (a0 : Int) (a1 : Int) : Option (Int) := if a1 < 0 then (earshotref02_Half.j0 k a0 a1 true) else (earshotref02_Half.j0 k a0 a1 (decide (a1 > 62)))
theorem earshotref02_Half.mono_l : ∀ k, (∀ y0 y1 y2, LeO (earshotref02_Half.j0 k y0 y1 y2) (earshotref02_Half.j0 (k + 1) y0 y1 y2))
 | 0 => fun _ _ _ r h => by simp [earshotref02_Half.j0] at h
 | k + 1 => by
   have ih0 := earshotref02_Half.mono_l k
   ·
    intro y0 y1 y2
    unfold earshotref02_Half.j0
    repeat' first
    | (with_reducible exact ih0 _ _ _)
    | (with_reducible exact earshotref02_power.mono _ _)
    | (with_reducible exact LeO.refl _)
    | (with_reducible exact LeO.none _)
    | (with_reducible refine LeO.ite ?_ ?_)
    | (with_reducible refine LeO.bind ?_ (fun _ => ?_))
    | exact ih0 _ _ _
    | exact earshotref02_power.mono _ _
    | exact LeO.none _
    | refine LeO.ite ?_ ?_
    | refine LeO.bind ?_ (fun _ => ?_)
theorem earshotref02_Half.mono : ∀ a0 a1 k, LeO (earshotref02_Half.f k a0 a1) (earshotref02_Half.f (k + 1) a0 a1) := by
 intro a0 a1 k
 have ih0 := earshotref02_Half.mono_l k
 unfold earshotref02_Half.f
 repeat' first
   | (with_reducible exact ih0 _ _ _)
   | (with_reducible exact earshotref02_power.mono _ _)
   | (with_reducible exact LeO.refl _)
   | (with_reducible exact LeO.none _)
   | (with_reducible refine LeO.ite ?_ ?_)
   | (with_reducible refine LeO.bind ?_ (fun _ => ?_))
   | exact ih0 _ _ _
   | exact earshotref02_power.mono _ _
   | exact LeO.none _
   | refine LeO.ite ?_ ?_
   | refine LeO.bind ?_ (fun _ => ?_)
set_option maxHeartbeats 8000000 in
set_option maxRecDepth 100000 in
theorem earshotref02_Half.calls (k : Nat) (a0 : Int) (a1 : Int) (r : Int) (w : World) (h : earshotref02_Half.f k a0 a1 = some r) :
  Calls Tryd.prog 56 #[.int .i64 a0, .int .i64 a1] w fun e w' => e = .returned (.int .i64 r) ∧ Drawn0 w w' := by
 have H : (if a1 < 0 then (earshotref02_Half.j0 k a0 a1 true) else (earshotref02_Half.j0 k a0 a1 (decide (a1 > 62)))) = some r := h
 clear h
 have HC3 := Aside0.mk H
 clear H
 go_enter Tryd.func56, Tryd.ntmps56
 go_upto_region 1 with (fail)
 go_cut [10] (fun v10 wc => ∃ (kq : Nat) (x10_2 : Bool), v10 = .bool x10_2 ∧ Aside0 (earshotref02_Half.j0 kq a0 a1 x10_2 = some r) ∧ Aside0 (kq ≤ k) ∧ Drawn0 w wc)
 case first =>
  have H := HC3.out
  clear HC3
  by_cases c4 : a1 < 0
  ·
   rw [if_pos c4] at H
   have c4b0 : decide (a1 < 0) = true := decide_eq_true c4
   clear c4
   (first | rw [c4b0] | (simp only [i64_w, i32_w]; rw [c4b0]) | skip)
   have H' := Aside0.mk H
   clear H
   go_wp2
   go_meet
   case rel => exact ⟨_, (true), (by first | rfl | (simp; done) | (simp [*]; done)), H', ⟨by first | omega | exact Nat.le_refl _⟩, by repeat (first | exact Drawn0.refl _ | apply Drawn0.step)⟩
  ·
   rw [if_neg c4] at H
   have c4b0 : decide (a1 < 0) = false := decide_eq_false c4
   clear c4
   (first | rw [c4b0] | (simp only [i64_w, i32_w]; rw [c4b0]) | skip)
   have H' := Aside0.mk H
   clear H
   go_wp2
   go_meet
   case rel => exact ⟨_, (decide (a1 > 62)), (by first | rfl | (simp; done) | (simp [*]; done)), H', ⟨by first | omega | exact Nat.le_refl _⟩, by repeat (first | exact Drawn0.refl _ | apply Drawn0.step)⟩
 case rest =>
  clear HC3
  try clear p2
  try clear c4
  try clear c4b0
  obtain ⟨kq, x10_2, rfl, HA, HJ2, ⟨mc2, rfl⟩⟩ := hcut
  cases kq with
  | zero => exact absurd HA.out (by simp [earshotref02_Half.j0])
  | succ kj2 =>
    have H := HA.out
    clear HA
    simp only [earshotref02_Half.j0] at H
    by_cases c5 : x10_2 = true
    ·
     subst c5
     have H1 : (some 0) = some r := by rw [if_pos rfl] at H; exact H
     clear H
     have H := H1
     clear H1
     obtain rfl := Option.some.inj H
     go_wp2
     go_ret
     exact ⟨by first | rfl | (simp; done) | (simp [*]; done), by repeat (first | exact Drawn0.refl _ | apply Drawn0.step)⟩
    ·
     replace c5 := Bool.eq_false_iff.mpr c5
     subst c5
     have H1 : ((earshotref02_power.f kj2 a1).bind fun t148 => ((earshotref02_Div.f a0 t148).bind fun t149 => (some t149))) = some r := by rw [if_neg (show ¬ (false = true) by decide)] at H; exact H
     clear H
     have H := H1
     clear H1
     replace H := Option.bind_eq_some_iff.mp H
     obtain ⟨t148, A60, H⟩ := H
     replace H : ((earshotref02_Div.f a0 t148).bind fun t149 => (some t149)) = some r := H
     have A6 := Aside0.mk A60
     clear A60
     replace H := Option.bind_eq_some_iff.mp H
     obtain ⟨t149, A70, H⟩ := H
     replace H : (some t149) = some r := H
     have A7 := Aside0.mk A70
     clear A70
     obtain rfl := Option.some.inj H
     go_wp2_with (first | ((with_reducible refine gate_callee (f := 86) rfl ?_); refine goesL_ (some 13) rfl rfl Tryd.func86 (by kernel_rfl) rfl #[.int .i64 a1] rfl (by (try simp only [List.map_toArray, List.map_cons, List.map_nil]); first | done | rfl | (simp only [List.length_drop, List.length_take]; rfl)) ?_; (with_reducible refine (earshotref02_power.calls kj2 a1 t148 _ A6.out).mono ?_); rintro e w' ⟨rfl, ⟨nd, rfl⟩⟩; refine ⟨_, rfl, ?_⟩) | ((with_reducible refine gate_callee (f := 85) rfl ?_); refine goesL_ (some 14) rfl rfl Tryd.func85 (by kernel_rfl) rfl #[.int .i64 a0, .int .i64 t148] rfl (by (try simp only [List.map_toArray, List.map_cons, List.map_nil]); first | done | rfl | (simp only [List.length_drop, List.length_take]; rfl)) ?_; (with_reducible refine (earshotref02_Div.calls a0 t148 t149 _ A7.out).mono ?_); rintro e w' ⟨rfl, ⟨nd, rfl⟩⟩; refine ⟨_, rfl, ?_⟩))
     go_ret
     exact ⟨by first | rfl | (simp; done) | (simp [*]; done), by repeat (first | exact Drawn0.refl _ | apply Drawn0.step)⟩
end Go.Proofs.YtmhacdnnnebpdaaDoor.PFrontStream
