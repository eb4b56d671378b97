/- Contracts of Go functions that this seat comes to, each with a plain function that tells its answers; conditions: those that each contract names. Written by a program of this session (wip/print) over the print words. -/
import Derived.Test.YtjnbnjlkljpbeaaAllx0
import Derived.Test.YtjnbnjlkljpbeaaAllx6
import Derived.Test.YtjnbnjlkljpbeaaAllx9
namespace Go.Proofs.Ytjnbnjlkljpbeaa.All
open Go.RowKit Go.Proofs.YtjnbnjlkljpbeaaW.PrintWords Go.Proofs.YtjnbnjlkljpbeaaW.PrintLast Go.Proofs.YtjnbnjlkljpbeaaW.PrintMore
attribute [local go_sem] max2_int min2_int max_two min_two max_three min_three max_four min_four   -- for this text's walks alone
set_option linter.unusedVariables false
set_option linter.unusedSimpArgs false

/-! ### wayfinderlaw04_RuleAct: function 7 -/
def wayfinderlaw04_RuleAct.f (k : Nat) (a0_0 : Int) (a0_1 : Int) (a0_2 : Int) (a0_3 : Int) (a0_4 : Int) (a0_5 : Int) (a1_0 : Int) (a1_1 : Int) (a1_2 : Int) (a1_3 : Int) (a1_4 : Int) (a1_5 : Int) (a2_0 : Int) (a2_1 : Int) (a3 : Int) (a4 : Int) : Option (Bool) := (wayfinderlaw04_awake.f k).bind fun t370 => (if t370 = true then ((rule_Fits.f a0_0 a0_1 a0_2 a0_3 a0_4 a0_5 a3 a4).bind fun t372 => ((rule_Fits.f a0_0 a0_1 a0_2 a0_3 a2_0 a2_1 a3 a4).bind fun t373 => (if (t372 == t373) = true then ((rule_Ahead.f a0_0 a0_1 a0_2 a0_3 a0_4 a0_5 a1_0 a1_1 a1_2 a1_3 a1_4 a1_5).bind fun t374 => ((rule_Ahead.f a0_0 a0_1 a0_2 a0_3 a2_0 a2_1 a1_0 a1_1 a1_2 a1_3 a1_4 a1_5).bind fun t375 => (if (t374 == t375) = true then ((rule_Alike.f a0_0 a0_1 a0_2 a0_3 a0_4 a0_5 a1_0 a1_1 a1_2 a1_3 a1_4 a1_5).bind fun t376 => ((rule_Alike.f a0_0 a0_1 a0_2 a0_3 a2_0 a2_1 a1_0 a1_1 a1_2 a1_3 a1_4 a1_5).bind fun t377 => (if (t376 == t377) = true then ((rule_Alike.f a0_0 a0_1 a0_2 a0_3 a0_4 a0_5 a0_0 a0_1 a0_2 a0_3 a2_0 a2_1).bind fun t378 => (some t378)) else (none)))) else (none)))) else (none)))) else (none))
theorem wayfinderlaw04_RuleAct.mono : ∀ a0 a1 a2 a3 a4 a5 a6 a7 a8 a9 a10 a11 a12 a13 a14 a15 k, LeO (wayfinderlaw04_RuleAct.f k a0 a1 a2 a3 a4 a5 a6 a7 a8 a9 a10 a11 a12 a13 a14 a15) (wayfinderlaw04_RuleAct.f (k + 1) a0 a1 a2 a3 a4 a5 a6 a7 a8 a9 a10 a11 a12 a13 a14 a15) := by
  intro a0 a1 a2 a3 a4 a5 a6 a7 a8 a9 a10 a11 a12 a13 a14 a15 k
  unfold wayfinderlaw04_RuleAct.f
  repeat' first
      | (with_reducible exact wayfinderlaw04_awake.mono _)
      | (with_reducible exact LeO.refl _)
      | (with_reducible exact LeO.none _)
      | (with_reducible refine LeO.ite ?_ ?_)
      | (with_reducible refine LeO.bind ?_ (fun _ => ?_))
      | exact wayfinderlaw04_awake.mono _
      | exact LeO.none _
      | refine LeO.ite ?_ ?_
      | refine LeO.bind ?_ (fun _ => ?_)
def wayfinderlaw04_RuleAct.T4 : Bool × List (List Nat × List Nat) := (true, [([], []), ([0], [0]), ([1], [1]), ([1], [1]), ([1], [1]), ([2, 3, 4, 1, 1], [1, 2, 3, 4]), ([1], [1]), ([1], [1]), ([1], [1]), ([6, 7, 8, 5, 1], [1, 6, 7, 8]), ([5, 9, 1], [1, 5, 9]), ([1, 10], [1, 10]), ([11, 9], [11]), ([12], [12]), ([12], [12]), ([13, 14, 12, 12], [12, 13, 14]), ([12], [12]), ([12], [12]), ([16, 17, 15, 12], [12, 16, 17]), ([15, 18, 12], [12, 15, 18]), ([12, 19], [12, 19]), ([20, 18], [20]), ([21], [21]), ([21], [21]), ([22, 23, 21, 21], [21, 22, 23]), ([21], [21]), ([21], [21]), ([25, 26, 24, 21], [21, 25, 26]), ([24, 27, 21], [21, 24, 27]), ([21, 28], [21, 28]), ([29, 27], [29]), ([30], [30]), ([30], [30]), ([31, 32, 30, 30], [30, 31, 32]), ([30, 33], [30, 33]), ([34, 33, 0, 1, 2, 3, 4, 5, 6, 7, 8, 9, 10, 11, 12, 13, 14, 15, 16, 17, 18, 19, 20, 21, 22, 23, 24, 25, 26, 27, 28, 29, 30, 31, 32, 33, 34], [34])])
def wayfinderlaw04_RuleAct.B4 : List Nat := [0, 1, 3, 3, 3, 31, 3, 3, 3, 511, 1023, 2047, 4095, 8191, 8191, 32767, 8191, 8191, 262143, 524287, 1048575, 2097151, 4194303, 4194303, 16777215, 4194303, 4194303, 134217727, 268435455, 536870911, 1073741823, 2147483647, 2147483647, 8589934591, 17179869183, 34359738367]
theorem wayfinderlaw04_RuleAct.tab4 : rtab .any (opsOf Try.f7 4) = wayfinderlaw04_RuleAct.T4 := by kernel_rfl
theorem wayfinderlaw04_RuleAct.bits4 : waitsOk wayfinderlaw04_RuleAct.T4.2 wayfinderlaw04_RuleAct.B4 = true := by kernel_rfl
set_option maxHeartbeats 8000000 in
set_option maxRecDepth 100000 in
theorem wayfinderlaw04_RuleAct.calls (k : Nat) (a0_0 : Int) (a0_1 : Int) (a0_2 : Int) (a0_3 : Int) (a0_4 : Int) (a0_5 : Int) (a1_0 : Int) (a1_1 : Int) (a1_2 : Int) (a1_3 : Int) (a1_4 : Int) (a1_5 : Int) (a2_0 : Int) (a2_1 : Int) (a3 : Int) (a4 : Int) (r : Bool) (w : World) (h : wayfinderlaw04_RuleAct.f k a0_0 a0_1 a0_2 a0_3 a0_4 a0_5 a1_0 a1_1 a1_2 a1_3 a1_4 a1_5 a2_0 a2_1 a3 a4 = some r) :
    Calls Try.prog 7 #[.agg #[.int .i64 a0_0, .int .i64 a0_1, .int .i64 a0_2, .int .i64 a0_3, .int .i64 a0_4, .int .i64 a0_5], .agg #[.int .i64 a1_0, .int .i64 a1_1, .int .i64 a1_2, .int .i64 a1_3, .int .i64 a1_4, .int .i64 a1_5], .agg #[.int .i64 a2_0, .int .i64 a2_1], .int .i64 a3, .int .i64 a4] w fun e w' => e = .returned (.bool r) ∧ Below w.heap.size w w' := by
  have hu27 := Try.underlying27
  have hu25 := Try.underlying25
  have HB := Aside0.mk (Below.refl w.heap.size w)
  have H : ((wayfinderlaw04_awake.f k).bind fun t370 => (if t370 = true then ((rule_Fits.f a0_0 a0_1 a0_2 a0_3 a0_4 a0_5 a3 a4).bind fun t372 => ((rule_Fits.f a0_0 a0_1 a0_2 a0_3 a2_0 a2_1 a3 a4).bind fun t373 => (if (t372 == t373) = true then ((rule_Ahead.f a0_0 a0_1 a0_2 a0_3 a0_4 a0_5 a1_0 a1_1 a1_2 a1_3 a1_4 a1_5).bind fun t374 => ((rule_Ahead.f a0_0 a0_1 a0_2 a0_3 a2_0 a2_1 a1_0 a1_1 a1_2 a1_3 a1_4 a1_5).bind fun t375 => (if (t374 == t375) = true then ((rule_Alike.f a0_0 a0_1 a0_2 a0_3 a0_4 a0_5 a1_0 a1_1 a1_2 a1_3 a1_4 a1_5).bind fun t376 => ((rule_Alike.f a0_0 a0_1 a0_2 a0_3 a2_0 a2_1 a1_0 a1_1 a1_2 a1_3 a1_4 a1_5).bind fun t377 => (if (t376 == t377) = true then ((rule_Alike.f a0_0 a0_1 a0_2 a0_3 a0_4 a0_5 a0_0 a0_1 a0_2 a0_3 a2_0 a2_1).bind fun t378 => (some t378)) else (none)))) else (none)))) else (none)))) else (none))) = some r := h
  clear h
  replace H := Option.bind_eq_some_iff.mp H
  obtain ⟨t370, A60, H⟩ := H
  replace H : (if t370 = true then ((rule_Fits.f a0_0 a0_1 a0_2 a0_3 a0_4 a0_5 a3 a4).bind fun t372 => ((rule_Fits.f a0_0 a0_1 a0_2 a0_3 a2_0 a2_1 a3 a4).bind fun t373 => (if (t372 == t373) = true then ((rule_Ahead.f a0_0 a0_1 a0_2 a0_3 a0_4 a0_5 a1_0 a1_1 a1_2 a1_3 a1_4 a1_5).bind fun t374 => ((rule_Ahead.f a0_0 a0_1 a0_2 a0_3 a2_0 a2_1 a1_0 a1_1 a1_2 a1_3 a1_4 a1_5).bind fun t375 => (if (t374 == t375) = true then ((rule_Alike.f a0_0 a0_1 a0_2 a0_3 a0_4 a0_5 a1_0 a1_1 a1_2 a1_3 a1_4 a1_5).bind fun t376 => ((rule_Alike.f a0_0 a0_1 a0_2 a0_3 a2_0 a2_1 a1_0 a1_1 a1_2 a1_3 a1_4 a1_5).bind fun t377 => (if (t376 == t377) = true then ((rule_Alike.f a0_0 a0_1 a0_2 a0_3 a0_4 a0_5 a0_0 a0_1 a0_2 a0_3 a2_0 a2_1).bind fun t378 => (some t378)) else (none)))) else (none)))) else (none)))) else (none)) = some r := H
  have A6 := Aside0.mk A60
  clear A60
  by_cases c7 : t370 = true
  · subst c7
    have H1 : ((rule_Fits.f a0_0 a0_1 a0_2 a0_3 a0_4 a0_5 a3 a4).bind fun t372 => ((rule_Fits.f a0_0 a0_1 a0_2 a0_3 a2_0 a2_1 a3 a4).bind fun t373 => (if (t372 == t373) = true then ((rule_Ahead.f a0_0 a0_1 a0_2 a0_3 a0_4 a0_5 a1_0 a1_1 a1_2 a1_3 a1_4 a1_5).bind fun t374 => ((rule_Ahead.f a0_0 a0_1 a0_2 a0_3 a2_0 a2_1 a1_0 a1_1 a1_2 a1_3 a1_4 a1_5).bind fun t375 => (if (t374 == t375) = true then ((rule_Alike.f a0_0 a0_1 a0_2 a0_3 a0_4 a0_5 a1_0 a1_1 a1_2 a1_3 a1_4 a1_5).bind fun t376 => ((rule_Alike.f a0_0 a0_1 a0_2 a0_3 a2_0 a2_1 a1_0 a1_1 a1_2 a1_3 a1_4 a1_5).bind fun t377 => (if (t376 == t377) = true then ((rule_Alike.f a0_0 a0_1 a0_2 a0_3 a0_4 a0_5 a0_0 a0_1 a0_2 a0_3 a2_0 a2_1).bind fun t378 => (some t378)) else (none)))) else (none)))) else (none)))) = some r := by rw [if_pos rfl] at H; exact H
    clear H
    have H := H1
    clear H1
    replace H := Option.bind_eq_some_iff.mp H
    obtain ⟨t372, A80, H⟩ := H
    replace H : ((rule_Fits.f a0_0 a0_1 a0_2 a0_3 a2_0 a2_1 a3 a4).bind fun t373 => (if (t372 == t373) = true then ((rule_Ahead.f a0_0 a0_1 a0_2 a0_3 a0_4 a0_5 a1_0 a1_1 a1_2 a1_3 a1_4 a1_5).bind fun t374 => ((rule_Ahead.f a0_0 a0_1 a0_2 a0_3 a2_0 a2_1 a1_0 a1_1 a1_2 a1_3 a1_4 a1_5).bind fun t375 => (if (t374 == t375) = true then ((rule_Alike.f a0_0 a0_1 a0_2 a0_3 a0_4 a0_5 a1_0 a1_1 a1_2 a1_3 a1_4 a1_5).bind fun t376 => ((rule_Alike.f a0_0 a0_1 a0_2 a0_3 a2_0 a2_1 a1_0 a1_1 a1_2 a1_3 a1_4 a1_5).bind fun t377 => (if (t376 == t377) = true then ((rule_Alike.f a0_0 a0_1 a0_2 a0_3 a0_4 a0_5 a0_0 a0_1 a0_2 a0_3 a2_0 a2_1).bind fun t378 => (some t378)) else (none)))) else (none)))) else (none))) = some r := H
    have A8 := Aside0.mk A80
    clear A80
    replace H := Option.bind_eq_some_iff.mp H
    obtain ⟨t373, A90, H⟩ := H
    replace H : (if (t372 == t373) = true then ((rule_Ahead.f a0_0 a0_1 a0_2 a0_3 a0_4 a0_5 a1_0 a1_1 a1_2 a1_3 a1_4 a1_5).bind fun t374 => ((rule_Ahead.f a0_0 a0_1 a0_2 a0_3 a2_0 a2_1 a1_0 a1_1 a1_2 a1_3 a1_4 a1_5).bind fun t375 => (if (t374 == t375) = true then ((rule_Alike.f a0_0 a0_1 a0_2 a0_3 a0_4 a0_5 a1_0 a1_1 a1_2 a1_3 a1_4 a1_5).bind fun t376 => ((rule_Alike.f a0_0 a0_1 a0_2 a0_3 a2_0 a2_1 a1_0 a1_1 a1_2 a1_3 a1_4 a1_5).bind fun t377 => (if (t376 == t377) = true then ((rule_Alike.f a0_0 a0_1 a0_2 a0_3 a0_4 a0_5 a0_0 a0_1 a0_2 a0_3 a2_0 a2_1).bind fun t378 => (some t378)) else (none)))) else (none)))) else (none)) = some r := H
    have A9 := Aside0.mk A90
    clear A90
    by_cases c10 : (t372 == t373) = true
    · rw [if_pos c10] at H
      have c10b0 : (t372 == t373) = true := c10
      (try (have c10b1 : decide (t372 = t373) = true := by simpa using c10))
      (try (have c10b2 : (t372 == t373) = true := by simpa using c10))
      clear c10
      replace H := Option.bind_eq_some_iff.mp H
      obtain ⟨t374, A110, H⟩ := H
      replace H : ((rule_Ahead.f a0_0 a0_1 a0_2 a0_3 a2_0 a2_1 a1_0 a1_1 a1_2 a1_3 a1_4 a1_5).bind fun t375 => (if (t374 == t375) = true then ((rule_Alike.f a0_0 a0_1 a0_2 a0_3 a0_4 a0_5 a1_0 a1_1 a1_2 a1_3 a1_4 a1_5).bind fun t376 => ((rule_Alike.f a0_0 a0_1 a0_2 a0_3 a2_0 a2_1 a1_0 a1_1 a1_2 a1_3 a1_4 a1_5).bind fun t377 => (if (t376 == t377) = true then ((rule_Alike.f a0_0 a0_1 a0_2 a0_3 a0_4 a0_5 a0_0 a0_1 a0_2 a0_3 a2_0 a2_1).bind fun t378 => (some t378)) else (none)))) else (none))) = some r := H
      have A11 := Aside0.mk A110
      clear A110
      replace H := Option.bind_eq_some_iff.mp H
      obtain ⟨t375, A120, H⟩ := H
      replace H : (if (t374 == t375) = true then ((rule_Alike.f a0_0 a0_1 a0_2 a0_3 a0_4 a0_5 a1_0 a1_1 a1_2 a1_3 a1_4 a1_5).bind fun t376 => ((rule_Alike.f a0_0 a0_1 a0_2 a0_3 a2_0 a2_1 a1_0 a1_1 a1_2 a1_3 a1_4 a1_5).bind fun t377 => (if (t376 == t377) = true then ((rule_Alike.f a0_0 a0_1 a0_2 a0_3 a0_4 a0_5 a0_0 a0_1 a0_2 a0_3 a2_0 a2_1).bind fun t378 => (some t378)) else (none)))) else (none)) = some r := H
      have A12 := Aside0.mk A120
      clear A120
      by_cases c13 : (t374 == t375) = true
      · rw [if_pos c13] at H
        have c13b0 : (t374 == t375) = true := c13
        (try (have c13b1 : decide (t374 = t375) = true := by simpa using c13))
        (try (have c13b2 : (t374 == t375) = true := by simpa using c13))
        clear c13
        replace H := Option.bind_eq_some_iff.mp H
        obtain ⟨t376, A140, H⟩ := H
        replace H : ((rule_Alike.f a0_0 a0_1 a0_2 a0_3 a2_0 a2_1 a1_0 a1_1 a1_2 a1_3 a1_4 a1_5).bind fun t377 => (if (t376 == t377) = true then ((rule_Alike.f a0_0 a0_1 a0_2 a0_3 a0_4 a0_5 a0_0 a0_1 a0_2 a0_3 a2_0 a2_1).bind fun t378 => (some t378)) else (none))) = some r := H
        have A14 := Aside0.mk A140
        clear A140
        replace H := Option.bind_eq_some_iff.mp H
        obtain ⟨t377, A150, H⟩ := H
        replace H : (if (t376 == t377) = true then ((rule_Alike.f a0_0 a0_1 a0_2 a0_3 a0_4 a0_5 a0_0 a0_1 a0_2 a0_3 a2_0 a2_1).bind fun t378 => (some t378)) else (none)) = some r := H
        have A15 := Aside0.mk A150
        clear A150
        by_cases c16 : (t376 == t377) = true
        · rw [if_pos c16] at H
          have c16b0 : (t376 == t377) = true := c16
          (try (have c16b1 : decide (t376 = t377) = true := by simpa using c16))
          (try (have c16b2 : (t376 == t377) = true := by simpa using c16))
          clear c16
          replace H := Option.bind_eq_some_iff.mp H
          obtain ⟨t378, A170, H⟩ := H
          replace H : (some t378) = some r := H
          have A17 := Aside0.mk A170
          clear A170
          obtain rfl := Option.some.inj H
          go_enter Try.func7, Try.ntmps7
          try go_wp2_with (first | ((with_reducible refine gate_dst (N := 5) rfl ?_); refine box_event ?hg (N := 5) ?hd (cs := #[.int .i64 a0_0, .int .i64 a0_1, .int .i64 a0_2, .int .i64 a0_3, .int .i64 a0_4, .int .i64 a0_5]) (t := 27) ?hr ?_; (case hd => rfl); (case hg => rfl); (case hr => first | (go_simp; done) | (go_simp; rfl)); intro gb367 hg w18 hbox hb; have n0_ := Aside0.mk (below_step (by repeat (first | (with_reducible first | exact HB.out | apply below_alloc | apply pw_below_drewN | apply below_drew1) | exact HB.out)) hb); have n1_ := Aside0.mk (hbox); have n2_ := Aside0.mk ((by rw [hg]; exact (below_size (by repeat (first | (with_reducible first | exact HB.out | apply below_alloc | apply pw_below_drewN | apply below_drew1) | exact HB.out))) : w.heap.size ≤ gb367)); have n3_ := Aside0.mk ((by rw [hg]; exact (below_size (by repeat (first | (with_reducible first | exact HB.out | apply below_alloc | apply pw_below_drewN | apply below_drew1) | exact HB.out))) : w.heap.size ≤ gb367)); clear HB; have HB := n0_; have BK367 := n1_; have GW367 := n2_; have GE367 := n3_; clear n0_ n1_ n2_ n3_; clear hb hbox hg) | ((with_reducible refine gate_dst (N := 6) rfl ?_); refine box_event ?hg (N := 6) ?hd (cs := #[.int .i64 a1_0, .int .i64 a1_1, .int .i64 a1_2, .int .i64 a1_3, .int .i64 a1_4, .int .i64 a1_5]) (t := 27) ?hr ?_; (case hd => rfl); (case hg => rfl); (case hr => first | (go_simp; done) | (go_simp; rfl)); intro gb368 hg w19 hbox hb; have n0_ := Aside0.mk (blk_below (g := gb367) (o := .cells #[.int .i64 a0_0, .int .i64 a0_1, .int .i64 a0_2, .int .i64 a0_3, .int .i64 a0_4, .int .i64 a0_5] 27 (0, 0)) (by (with_reducible repeat (first | refine blk_drewN ?_ _ | refine blk_drew ?_ | refine blk_alloc ?_ _)); exact BK367.out) hb); have n1_ := Aside0.mk (below_step (by repeat (first | (with_reducible first | exact HB.out | apply below_alloc | apply pw_below_drewN | apply below_drew1 | refine below_set ?_ GE367.out) | exact HB.out)) hb); have n2_ := Aside0.mk (hbox); have n3_ := Aside0.mk ((by rw [hg]; exact (below_size (by repeat (first | (with_reducible first | exact HB.out | apply below_alloc | apply pw_below_drewN | apply below_drew1 | refine below_set ?_ GE367.out) | exact HB.out))) : w.heap.size ≤ gb368)); have n4_ := Aside0.mk ((by rw [hg]; exact (below_size (by repeat (first | (with_reducible first | exact HB.out | apply below_alloc | apply pw_below_drewN | apply below_drew1 | refine below_set ?_ GE367.out) | exact HB.out))) : w.heap.size ≤ gb368)); have n5_ := Aside0.mk ((by rw [hg]; exact Nat.ne_of_lt (blk_lt (g := gb367) (o := .cells #[.int .i64 a0_0, .int .i64 a0_1, .int .i64 a0_2, .int .i64 a0_3, .int .i64 a0_4, .int .i64 a0_5] 27 (0, 0)) (by (with_reducible repeat (first | refine blk_drewN ?_ _ | refine blk_drew ?_ | refine blk_alloc ?_ _)); exact BK367.out)) : gb367 ≠ gb368)); have n6_ := Aside0.mk ((by rw [hg]; exact Nat.ne_of_gt (blk_lt (g := gb367) (o := .cells #[.int .i64 a0_0, .int .i64 a0_1, .int .i64 a0_2, .int .i64 a0_3, .int .i64 a0_4, .int .i64 a0_5] 27 (0, 0)) (by (with_reducible repeat (first | refine blk_drewN ?_ _ | refine blk_drew ?_ | refine blk_alloc ?_ _)); exact BK367.out)) : gb368 ≠ gb367)); clear BK367; clear HB; have BK367 := n0_; have HB := n1_; have BK368 := n2_; have GW368 := n3_; have GE368 := n4_; have NB367_368 := n5_; have NB368_367 := n6_; clear n0_ n1_ n2_ n3_ n4_ n5_ n6_; clear hb hbox hg) | ((with_reducible refine gate_dst (N := 7) rfl ?_); refine box_event ?hg (N := 7) ?hd (cs := #[.int .i64 a2_0, .int .i64 a2_1]) (t := 25) ?hr ?_; (case hd => rfl); (case hg => rfl); (case hr => first | (go_simp; done) | (go_simp; rfl)); intro gb369 hg w20 hbox hb; have n0_ := Aside0.mk (blk_below (g := gb367) (o := .cells #[.int .i64 a0_0, .int .i64 a0_1, .int .i64 a0_2, .int .i64 a0_3, .int .i64 a0_4, .int .i64 a0_5] 27 (0, 0)) (by (with_reducible repeat (first | refine blk_drewN ?_ _ | refine blk_drew ?_ | refine blk_alloc ?_ _)); exact BK367.out) hb); have n1_ := Aside0.mk (blk_below (g := gb368) (o := .cells #[.int .i64 a1_0, .int .i64 a1_1, .int .i64 a1_2, .int .i64 a1_3, .int .i64 a1_4, .int .i64 a1_5] 27 (0, 0)) (by (with_reducible repeat (first | refine blk_drewN ?_ _ | refine blk_drew ?_ | refine blk_alloc ?_ _)); exact BK368.out) hb); have n2_ := Aside0.mk (below_step (by repeat (first | (with_reducible first | exact HB.out | apply below_alloc | apply pw_below_drewN | apply below_drew1 | refine below_set ?_ GE367.out | refine below_set ?_ GE368.out) | exact HB.out)) hb); have n3_ := Aside0.mk (hbox); have n4_ := Aside0.mk ((by rw [hg]; exact (below_size (by repeat (first | (with_reducible first | exact HB.out | apply below_alloc | apply pw_below_drewN | apply below_drew1 | refine below_set ?_ GE367.out | refine below_set ?_ GE368.out) | exact HB.out))) : w.heap.size ≤ gb369)); have n5_ := Aside0.mk ((by rw [hg]; exact (below_size (by repeat (first | (with_reducible first | exact HB.out | apply below_alloc | apply pw_below_drewN | apply below_drew1 | refine below_set ?_ GE367.out | refine below_set ?_ GE368.out) | exact HB.out))) : w.heap.size ≤ gb369)); have n6_ := Aside0.mk ((by rw [hg]; exact Nat.ne_of_lt (blk_lt (g := gb367) (o := .cells #[.int .i64 a0_0, .int .i64 a0_1, .int .i64 a0_2, .int .i64 a0_3, .int .i64 a0_4, .int .i64 a0_5] 27 (0, 0)) (by (with_reducible repeat (first | refine blk_drewN ?_ _ | refine blk_drew ?_ | refine blk_alloc ?_ _)); exact BK367.out)) : gb367 ≠ gb369)); have n7_ := Aside0.mk ((by rw [hg]; exact Nat.ne_of_gt (blk_lt (g := gb367) (o := .cells #[.int .i64 a0_0, .int .i64 a0_1, .int .i64 a0_2, .int .i64 a0_3, .int .i64 a0_4, .int .i64 a0_5] 27 (0, 0)) (by (with_reducible repeat (first | refine blk_drewN ?_ _ | refine blk_drew ?_ | refine blk_alloc ?_ _)); exact BK367.out)) : gb369 ≠ gb367)); have n8_ := Aside0.mk ((by rw [hg]; exact Nat.ne_of_lt (blk_lt (g := gb368) (o := .cells #[.int .i64 a1_0, .int .i64 a1_1, .int .i64 a1_2, .int .i64 a1_3, .int .i64 a1_4, .int .i64 a1_5] 27 (0, 0)) (by (with_reducible repeat (first | refine blk_drewN ?_ _ | refine blk_drew ?_ | refine blk_alloc ?_ _)); exact BK368.out)) : gb368 ≠ gb369)); have n9_ := Aside0.mk ((by rw [hg]; exact Nat.ne_of_gt (blk_lt (g := gb368) (o := .cells #[.int .i64 a1_0, .int .i64 a1_1, .int .i64 a1_2, .int .i64 a1_3, .int .i64 a1_4, .int .i64 a1_5] 27 (0, 0)) (by (with_reducible repeat (first | refine blk_drewN ?_ _ | refine blk_drew ?_ | refine blk_alloc ?_ _)); exact BK368.out)) : gb369 ≠ gb368)); clear BK367; clear BK368; clear HB; have BK367 := n0_; have BK368 := n1_; have HB := n2_; have BK369 := n3_; have GW369 := n4_; have GE369 := n5_; have NB367_369 := n6_; have NB369_367 := n7_; have NB368_369 := n8_; have NB369_368 := n9_; clear n0_ n1_ n2_ n3_ n4_ n5_ n6_ n7_ n8_ n9_; clear hb hbox hg) | ((with_reducible refine gate_callee (f := 11) rfl ?_); refine goesL_ (some 13) rfl rfl Try.func11 (by kernel_rfl) rfl #[] rfl (by (try simp only [List.map_toArray, List.map_cons, List.map_nil]); first | done | rfl | (simp only [List.length_drop, List.length_take]; rfl)) ?_; (with_reducible refine (wayfinderlaw04_awake.calls k  true _ A6.out).mono ?_); rintro e w21 ⟨rfl, hb⟩; refine ⟨_, rfl, ?_⟩; have n0_ := Aside0.mk (blk_below (g := gb367) (o := .cells #[.int .i64 a0_0, .int .i64 a0_1, .int .i64 a0_2, .int .i64 a0_3, .int .i64 a0_4, .int .i64 a0_5] 27 (0, 0)) (by (with_reducible repeat (first | refine blk_drewN ?_ _ | refine blk_drew ?_ | refine blk_alloc ?_ _)); exact BK367.out) hb); have n1_ := Aside0.mk (blk_below (g := gb368) (o := .cells #[.int .i64 a1_0, .int .i64 a1_1, .int .i64 a1_2, .int .i64 a1_3, .int .i64 a1_4, .int .i64 a1_5] 27 (0, 0)) (by (with_reducible repeat (first | refine blk_drewN ?_ _ | refine blk_drew ?_ | refine blk_alloc ?_ _)); exact BK368.out) hb); have n2_ := Aside0.mk (blk_below (g := gb369) (o := .cells #[.int .i64 a2_0, .int .i64 a2_1] 25 (0, 0)) (by (with_reducible repeat (first | refine blk_drewN ?_ _ | refine blk_drew ?_ | refine blk_alloc ?_ _)); exact BK369.out) hb); have n3_ := Aside0.mk (below_step (by repeat (first | (with_reducible first | exact HB.out | apply below_alloc | apply pw_below_drewN | apply below_drew1 | refine below_set ?_ GE367.out | refine below_set ?_ GE368.out | refine below_set ?_ GE369.out) | exact HB.out)) hb); clear BK367; clear BK368; clear BK369; clear HB; have BK367 := n0_; have BK368 := n1_; have BK369 := n2_; have HB := n3_; clear n0_ n1_ n2_ n3_; (try clear hb); (try clear hb2); (try clear hk); (try clear hi); have hnb22 := NB367_368.out; have hnc22 := NB368_367.out; have hnb23 := NB367_369.out; have hnc23 := NB369_367.out; have hcz24_0 : w21.cell? ⟨gb367, 0, none⟩ = some (.int .i64 a0_0) := (blk_cell BK367.out 0).trans rfl; have hcz24_1 : w21.cell? ⟨gb367, 1, none⟩ = some (.int .i64 a0_1) := (blk_cell BK367.out 1).trans rfl; have hcz24_2 : w21.cell? ⟨gb367, 2, none⟩ = some (.int .i64 a0_2) := (blk_cell BK367.out 2).trans rfl; have hcz24_3 : w21.cell? ⟨gb367, 3, none⟩ = some (.int .i64 a0_3) := (blk_cell BK367.out 3).trans rfl; have hcz24_4 : w21.cell? ⟨gb367, 4, none⟩ = some (.int .i64 a0_4) := (blk_cell BK367.out 4).trans rfl; have hcz24_5 : w21.cell? ⟨gb367, 5, none⟩ = some (.int .i64 a0_5) := (blk_cell BK367.out 5).trans rfl; have hfz24_0 := blk_frozen BK367.out 0; have hfz24_1 := blk_frozen BK367.out 1; have hfz24_2 := blk_frozen BK367.out 2; have hfz24_3 := blk_frozen BK367.out 3; have hfz24_4 := blk_frozen BK367.out 4; have hfz24_5 := blk_frozen BK367.out 5) | ((with_reducible refine gate_dst (N := 12) rfl ?_); refine box_event ?hg (N := 12) ?hd (cs := #[.int .i64 0, .int .i64 0, .int .i64 0, .int .i64 0, .int .i64 0, .int .i64 0]) (t := 27) ?hr ?_; (case hd => rfl); (case hg => rfl); (case hr => first | (go_simp; done) | (go_simp; rfl)); intro gb371 hg w25 hbox hb; have n0_ := Aside0.mk (blk_below (g := gb367) (o := .cells #[.int .i64 a0_0, .int .i64 a0_1, .int .i64 a0_2, .int .i64 a0_3, .int .i64 a0_4, .int .i64 a0_5] 27 (0, 0)) (by (with_reducible repeat (first | refine blk_drewN ?_ _ | refine blk_drew ?_ | refine blk_alloc ?_ _)); exact BK367.out) hb); have n1_ := Aside0.mk (blk_below (g := gb368) (o := .cells #[.int .i64 a1_0, .int .i64 a1_1, .int .i64 a1_2, .int .i64 a1_3, .int .i64 a1_4, .int .i64 a1_5] 27 (0, 0)) (by (with_reducible repeat (first | refine blk_drewN ?_ _ | refine blk_drew ?_ | refine blk_alloc ?_ _)); exact BK368.out) hb); have n2_ := Aside0.mk (blk_below (g := gb369) (o := .cells #[.int .i64 a2_0, .int .i64 a2_1] 25 (0, 0)) (by (with_reducible repeat (first | refine blk_drewN ?_ _ | refine blk_drew ?_ | refine blk_alloc ?_ _)); exact BK369.out) hb); have n3_ := Aside0.mk (below_step (by repeat (first | (with_reducible first | exact HB.out | apply below_alloc | apply pw_below_drewN | apply below_drew1 | refine below_set ?_ GE367.out | refine below_set ?_ GE368.out | refine below_set ?_ GE369.out) | exact HB.out)) hb); have n4_ := Aside0.mk (hbox); have n5_ := Aside0.mk ((by rw [hg]; exact (below_size (by repeat (first | (with_reducible first | exact HB.out | apply below_alloc | apply pw_below_drewN | apply below_drew1 | refine below_set ?_ GE367.out | refine below_set ?_ GE368.out | refine below_set ?_ GE369.out) | exact HB.out))) : w.heap.size ≤ gb371)); have n6_ := Aside0.mk ((by rw [hg]; exact (below_size (by repeat (first | (with_reducible first | exact HB.out | apply below_alloc | apply pw_below_drewN | apply below_drew1 | refine below_set ?_ GE367.out | refine below_set ?_ GE368.out | refine below_set ?_ GE369.out) | exact HB.out))) : w.heap.size ≤ gb371)); have n7_ := Aside0.mk ((by rw [hg]; exact Nat.ne_of_lt (blk_lt (g := gb367) (o := .cells #[.int .i64 a0_0, .int .i64 a0_1, .int .i64 a0_2, .int .i64 a0_3, .int .i64 a0_4, .int .i64 a0_5] 27 (0, 0)) (by (with_reducible repeat (first | refine blk_drewN ?_ _ | refine blk_drew ?_ | refine blk_alloc ?_ _)); exact BK367.out)) : gb367 ≠ gb371)); have n8_ := Aside0.mk ((by rw [hg]; exact Nat.ne_of_gt (blk_lt (g := gb367) (o := .cells #[.int .i64 a0_0, .int .i64 a0_1, .int .i64 a0_2, .int .i64 a0_3, .int .i64 a0_4, .int .i64 a0_5] 27 (0, 0)) (by (with_reducible repeat (first | refine blk_drewN ?_ _ | refine blk_drew ?_ | refine blk_alloc ?_ _)); exact BK367.out)) : gb371 ≠ gb367)); have n9_ := Aside0.mk ((by rw [hg]; exact Nat.ne_of_lt (blk_lt (g := gb368) (o := .cells #[.int .i64 a1_0, .int .i64 a1_1, .int .i64 a1_2, .int .i64 a1_3, .int .i64 a1_4, .int .i64 a1_5] 27 (0, 0)) (by (with_reducible repeat (first | refine blk_drewN ?_ _ | refine blk_drew ?_ | refine blk_alloc ?_ _)); exact BK368.out)) : gb368 ≠ gb371)); have n10_ := Aside0.mk ((by rw [hg]; exact Nat.ne_of_gt (blk_lt (g := gb368) (o := .cells #[.int .i64 a1_0, .int .i64 a1_1, .int .i64 a1_2, .int .i64 a1_3, .int .i64 a1_4, .int .i64 a1_5] 27 (0, 0)) (by (with_reducible repeat (first | refine blk_drewN ?_ _ | refine blk_drew ?_ | refine blk_alloc ?_ _)); exact BK368.out)) : gb371 ≠ gb368)); have n11_ := Aside0.mk ((by rw [hg]; exact Nat.ne_of_lt (blk_lt (g := gb369) (o := .cells #[.int .i64 a2_0, .int .i64 a2_1] 25 (0, 0)) (by (with_reducible repeat (first | refine blk_drewN ?_ _ | refine blk_drew ?_ | refine blk_alloc ?_ _)); exact BK369.out)) : gb369 ≠ gb371)); have n12_ := Aside0.mk ((by rw [hg]; exact Nat.ne_of_gt (blk_lt (g := gb369) (o := .cells #[.int .i64 a2_0, .int .i64 a2_1] 25 (0, 0)) (by (with_reducible repeat (first | refine blk_drewN ?_ _ | refine blk_drew ?_ | refine blk_alloc ?_ _)); exact BK369.out)) : gb371 ≠ gb369)); clear BK367; clear BK368; clear BK369; clear HB; have BK367 := n0_; have BK368 := n1_; have BK369 := n2_; have HB := n3_; have BK371 := n4_; have GW371 := n5_; have GE371 := n6_; have NB367_371 := n7_; have NB371_367 := n8_; have NB368_371 := n9_; have NB371_368 := n10_; have NB369_371 := n11_; have NB371_369 := n12_; clear n0_ n1_ n2_ n3_ n4_ n5_ n6_ n7_ n8_ n9_ n10_ n11_ n12_; clear hb hbox hg; have hnb26 := NB371_367.out; have hnc26 := NB367_371.out; have hnb27 := NB371_368.out; have hnc27 := NB368_371.out; have hnb28 := NB371_369.out; have hnc28 := NB369_371.out; have hcz29_0 : w25.cell? ⟨gb371, 0, none⟩ = some (.int .i64 0) := (blk_cell BK371.out 0).trans rfl; have hcz29_1 : w25.cell? ⟨gb371, 1, none⟩ = some (.int .i64 0) := (blk_cell BK371.out 1).trans rfl; have hcz29_2 : w25.cell? ⟨gb371, 2, none⟩ = some (.int .i64 0) := (blk_cell BK371.out 2).trans rfl; have hcz29_3 : w25.cell? ⟨gb371, 3, none⟩ = some (.int .i64 0) := (blk_cell BK371.out 3).trans rfl; have hcz29_4 : w25.cell? ⟨gb371, 4, none⟩ = some (.int .i64 0) := (blk_cell BK371.out 4).trans rfl; have hcz29_5 : w25.cell? ⟨gb371, 5, none⟩ = some (.int .i64 0) := (blk_cell BK371.out 5).trans rfl; have hfz29_0 := blk_frozen BK371.out 0; have hfz29_1 := blk_frozen BK371.out 1; have hfz29_2 := blk_frozen BK371.out 2; have hfz29_3 := blk_frozen BK371.out 3; have hfz29_4 := blk_frozen BK371.out 4; have hfz29_5 := blk_frozen BK371.out 5; have hnb30 := NB369_368.out; have hnc30 := NB368_369.out; have hcz31_0 : w25.cell? ⟨gb369, 0, none⟩ = some (.int .i64 a2_0) := (blk_cell BK369.out 0).trans rfl; have hcz31_1 : w25.cell? ⟨gb369, 1, none⟩ = some (.int .i64 a2_1) := (blk_cell BK369.out 1).trans rfl; have hfz31_0 := blk_frozen BK369.out 0; have hfz31_1 := blk_frozen BK369.out 1))
          have n0_ : Aside0 (((((((((w25.setCell ⟨gb371, 0, none⟩ (.int .i64 a0_0)).setCell ⟨gb371, 1, none⟩ (.int .i64 a0_1)).setCell ⟨gb371, 2, none⟩ (.int .i64 a0_2)).setCell ⟨gb371, 3, none⟩ (.int .i64 a0_3)).setCell ⟨gb371, 4, none⟩ (.int .i64 a0_4)).setCell ⟨gb371, 5, none⟩ (.int .i64 a0_5)).setCell ⟨gb371, 4, none⟩ (.int .i64 a2_0)).setCell ⟨gb371, 5, none⟩ (.int .i64 a2_1)).heap[gb367]? = some (.cells #[.int .i64 a0_0, .int .i64 a0_1, .int .i64 a0_2, .int .i64 a0_3, .int .i64 a0_4, .int .i64 a0_5] 27 (0, 0))) := ⟨by (with_reducible repeat (first | refine blk_drewN ?_ _ | refine blk_drew ?_ | refine blk_alloc ?_ _)); refine blk_far ?_ NB367_371.out _; (with_reducible repeat (first | refine blk_drewN ?_ _ | refine blk_drew ?_ | refine blk_alloc ?_ _)); refine blk_far ?_ NB367_371.out _; (with_reducible repeat (first | refine blk_drewN ?_ _ | refine blk_drew ?_ | refine blk_alloc ?_ _)); refine blk_far ?_ NB367_371.out _; (with_reducible repeat (first | refine blk_drewN ?_ _ | refine blk_drew ?_ | refine blk_alloc ?_ _)); refine blk_far ?_ NB367_371.out _; (with_reducible repeat (first | refine blk_drewN ?_ _ | refine blk_drew ?_ | refine blk_alloc ?_ _)); refine blk_far ?_ NB367_371.out _; (with_reducible repeat (first | refine blk_drewN ?_ _ | refine blk_drew ?_ | refine blk_alloc ?_ _)); refine blk_far ?_ NB367_371.out _; (with_reducible repeat (first | refine blk_drewN ?_ _ | refine blk_drew ?_ | refine blk_alloc ?_ _)); refine blk_far ?_ NB367_371.out _; (with_reducible repeat (first | refine blk_drewN ?_ _ | refine blk_drew ?_ | refine blk_alloc ?_ _)); refine blk_far ?_ NB367_371.out _; (with_reducible repeat (first | refine blk_drewN ?_ _ | refine blk_drew ?_ | refine blk_alloc ?_ _)); exact BK367.out⟩
          have n1_ : Aside0 (((((((((w25.setCell ⟨gb371, 0, none⟩ (.int .i64 a0_0)).setCell ⟨gb371, 1, none⟩ (.int .i64 a0_1)).setCell ⟨gb371, 2, none⟩ (.int .i64 a0_2)).setCell ⟨gb371, 3, none⟩ (.int .i64 a0_3)).setCell ⟨gb371, 4, none⟩ (.int .i64 a0_4)).setCell ⟨gb371, 5, none⟩ (.int .i64 a0_5)).setCell ⟨gb371, 4, none⟩ (.int .i64 a2_0)).setCell ⟨gb371, 5, none⟩ (.int .i64 a2_1)).heap[gb368]? = some (.cells #[.int .i64 a1_0, .int .i64 a1_1, .int .i64 a1_2, .int .i64 a1_3, .int .i64 a1_4, .int .i64 a1_5] 27 (0, 0))) := ⟨by (with_reducible repeat (first | refine blk_drewN ?_ _ | refine blk_drew ?_ | refine blk_alloc ?_ _)); refine blk_far ?_ NB368_371.out _; (with_reducible repeat (first | refine blk_drewN ?_ _ | refine blk_drew ?_ | refine blk_alloc ?_ _)); refine blk_far ?_ NB368_371.out _; (with_reducible repeat (first | refine blk_drewN ?_ _ | refine blk_drew ?_ | refine blk_alloc ?_ _)); refine blk_far ?_ NB368_371.out _; (with_reducible repeat (first | refine blk_drewN ?_ _ | refine blk_drew ?_ | refine blk_alloc ?_ _)); refine blk_far ?_ NB368_371.out _; (with_reducible repeat (first | refine blk_drewN ?_ _ | refine blk_drew ?_ | refine blk_alloc ?_ _)); refine blk_far ?_ NB368_371.out _; (with_reducible repeat (first | refine blk_drewN ?_ _ | refine blk_drew ?_ | refine blk_alloc ?_ _)); refine blk_far ?_ NB368_371.out _; (with_reducible repeat (first | refine blk_drewN ?_ _ | refine blk_drew ?_ | refine blk_alloc ?_ _)); refine blk_far ?_ NB368_371.out _; (with_reducible repeat (first | refine blk_drewN ?_ _ | refine blk_drew ?_ | refine blk_alloc ?_ _)); refine blk_far ?_ NB368_371.out _; (with_reducible repeat (first | refine blk_drewN ?_ _ | refine blk_drew ?_ | refine blk_alloc ?_ _)); exact BK368.out⟩
          have n2_ : Aside0 (((((((((w25.setCell ⟨gb371, 0, none⟩ (.int .i64 a0_0)).setCell ⟨gb371, 1, none⟩ (.int .i64 a0_1)).setCell ⟨gb371, 2, none⟩ (.int .i64 a0_2)).setCell ⟨gb371, 3, none⟩ (.int .i64 a0_3)).setCell ⟨gb371, 4, none⟩ (.int .i64 a0_4)).setCell ⟨gb371, 5, none⟩ (.int .i64 a0_5)).setCell ⟨gb371, 4, none⟩ (.int .i64 a2_0)).setCell ⟨gb371, 5, none⟩ (.int .i64 a2_1)).heap[gb369]? = some (.cells #[.int .i64 a2_0, .int .i64 a2_1] 25 (0, 0))) := ⟨by (with_reducible repeat (first | refine blk_drewN ?_ _ | refine blk_drew ?_ | refine blk_alloc ?_ _)); refine blk_far ?_ NB369_371.out _; (with_reducible repeat (first | refine blk_drewN ?_ _ | refine blk_drew ?_ | refine blk_alloc ?_ _)); refine blk_far ?_ NB369_371.out _; (with_reducible repeat (first | refine blk_drewN ?_ _ | refine blk_drew ?_ | refine blk_alloc ?_ _)); refine blk_far ?_ NB369_371.out _; (with_reducible repeat (first | refine blk_drewN ?_ _ | refine blk_drew ?_ | refine blk_alloc ?_ _)); refine blk_far ?_ NB369_371.out _; (with_reducible repeat (first | refine blk_drewN ?_ _ | refine blk_drew ?_ | refine blk_alloc ?_ _)); refine blk_far ?_ NB369_371.out _; (with_reducible repeat (first | refine blk_drewN ?_ _ | refine blk_drew ?_ | refine blk_alloc ?_ _)); refine blk_far ?_ NB369_371.out _; (with_reducible repeat (first | refine blk_drewN ?_ _ | refine blk_drew ?_ | refine blk_alloc ?_ _)); refine blk_far ?_ NB369_371.out _; (with_reducible repeat (first | refine blk_drewN ?_ _ | refine blk_drew ?_ | refine blk_alloc ?_ _)); refine blk_far ?_ NB369_371.out _; (with_reducible repeat (first | refine blk_drewN ?_ _ | refine blk_drew ?_ | refine blk_alloc ?_ _)); exact BK369.out⟩
          have n3_ : Aside0 (((((((((w25.setCell ⟨gb371, 0, none⟩ (.int .i64 a0_0)).setCell ⟨gb371, 1, none⟩ (.int .i64 a0_1)).setCell ⟨gb371, 2, none⟩ (.int .i64 a0_2)).setCell ⟨gb371, 3, none⟩ (.int .i64 a0_3)).setCell ⟨gb371, 4, none⟩ (.int .i64 a0_4)).setCell ⟨gb371, 5, none⟩ (.int .i64 a0_5)).setCell ⟨gb371, 4, none⟩ (.int .i64 a2_0)).setCell ⟨gb371, 5, none⟩ (.int .i64 a2_1)).heap[gb371]? = some (.cells #[.int .i64 a0_0, .int .i64 a0_1, .int .i64 a0_2, .int .i64 a0_3, .int .i64 a2_0, .int .i64 a2_1] 27 (0, 0))) := ⟨by (with_reducible repeat (first | refine blk_drewN ?_ _ | refine blk_drew ?_ | refine blk_alloc ?_ _)); refine blk_put (cs := #[.int .i64 a0_0, .int .i64 a0_1, .int .i64 a0_2, .int .i64 a0_3, .int .i64 a2_0, .int .i64 a0_5]) ?_ 5 _ rfl; (with_reducible repeat (first | refine blk_drewN ?_ _ | refine blk_drew ?_ | refine blk_alloc ?_ _)); refine blk_put (cs := #[.int .i64 a0_0, .int .i64 a0_1, .int .i64 a0_2, .int .i64 a0_3, .int .i64 a0_4, .int .i64 a0_5]) ?_ 4 _ rfl; (with_reducible repeat (first | refine blk_drewN ?_ _ | refine blk_drew ?_ | refine blk_alloc ?_ _)); refine blk_put (cs := #[.int .i64 a0_0, .int .i64 a0_1, .int .i64 a0_2, .int .i64 a0_3, .int .i64 a0_4, .int .i64 0]) ?_ 5 _ rfl; (with_reducible repeat (first | refine blk_drewN ?_ _ | refine blk_drew ?_ | refine blk_alloc ?_ _)); refine blk_put (cs := #[.int .i64 a0_0, .int .i64 a0_1, .int .i64 a0_2, .int .i64 a0_3, .int .i64 0, .int .i64 0]) ?_ 4 _ rfl; (with_reducible repeat (first | refine blk_drewN ?_ _ | refine blk_drew ?_ | refine blk_alloc ?_ _)); refine blk_put (cs := #[.int .i64 a0_0, .int .i64 a0_1, .int .i64 a0_2, .int .i64 0, .int .i64 0, .int .i64 0]) ?_ 3 _ rfl; (with_reducible repeat (first | refine blk_drewN ?_ _ | refine blk_drew ?_ | refine blk_alloc ?_ _)); refine blk_put (cs := #[.int .i64 a0_0, .int .i64 a0_1, .int .i64 0, .int .i64 0, .int .i64 0, .int .i64 0]) ?_ 2 _ rfl; (with_reducible repeat (first | refine blk_drewN ?_ _ | refine blk_drew ?_ | refine blk_alloc ?_ _)); refine blk_put (cs := #[.int .i64 a0_0, .int .i64 0, .int .i64 0, .int .i64 0, .int .i64 0, .int .i64 0]) ?_ 1 _ rfl; (with_reducible repeat (first | refine blk_drewN ?_ _ | refine blk_drew ?_ | refine blk_alloc ?_ _)); refine blk_put (cs := #[.int .i64 0, .int .i64 0, .int .i64 0, .int .i64 0, .int .i64 0, .int .i64 0]) ?_ 0 _ rfl; (with_reducible repeat (first | refine blk_drewN ?_ _ | refine blk_drew ?_ | refine blk_alloc ?_ _)); exact BK371.out⟩
          have n4_ : Aside0 (Below w.heap.size w ((((((((w25.setCell ⟨gb371, 0, none⟩ (.int .i64 a0_0)).setCell ⟨gb371, 1, none⟩ (.int .i64 a0_1)).setCell ⟨gb371, 2, none⟩ (.int .i64 a0_2)).setCell ⟨gb371, 3, none⟩ (.int .i64 a0_3)).setCell ⟨gb371, 4, none⟩ (.int .i64 a0_4)).setCell ⟨gb371, 5, none⟩ (.int .i64 a0_5)).setCell ⟨gb371, 4, none⟩ (.int .i64 a2_0)).setCell ⟨gb371, 5, none⟩ (.int .i64 a2_1))) := ⟨by repeat (first | (with_reducible first | exact HB.out | apply below_alloc | apply pw_below_drewN | apply below_drew1 | refine below_set ?_ GE367.out | refine below_set ?_ GE368.out | refine below_set ?_ GE369.out | refine below_set ?_ GE371.out) | exact HB.out)⟩
          (try clear BK367)
          (try clear BK368)
          (try clear BK369)
          (try clear BK371)
          (try clear HB)
          generalize ((((((((w25.setCell ⟨gb371, 0, none⟩ (.int .i64 a0_0)).setCell ⟨gb371, 1, none⟩ (.int .i64 a0_1)).setCell ⟨gb371, 2, none⟩ (.int .i64 a0_2)).setCell ⟨gb371, 3, none⟩ (.int .i64 a0_3)).setCell ⟨gb371, 4, none⟩ (.int .i64 a0_4)).setCell ⟨gb371, 5, none⟩ (.int .i64 a0_5)).setCell ⟨gb371, 4, none⟩ (.int .i64 a2_0)).setCell ⟨gb371, 5, none⟩ (.int .i64 a2_1)) = w32 at n0_ n1_ n2_ n3_ n4_ ⊢
          have BK367 := n0_
          have BK368 := n1_
          have BK369 := n2_
          have BK371 := n3_
          have HB := n4_
          clear n0_ n1_ n2_ n3_ n4_
          have n0_ := Aside0.mk (blk_drew BK367.out)
          have n1_ := Aside0.mk (blk_drew BK368.out)
          have n2_ := Aside0.mk (blk_drew BK369.out)
          have n3_ := Aside0.mk (blk_drew BK371.out)
          have n4_ := Aside0.mk (below_drew1 HB.out)
          clear BK367
          clear BK368
          clear BK369
          clear BK371
          clear HB
          have BK367 := n0_
          have BK368 := n1_
          have BK369 := n2_
          have BK371 := n3_
          have HB := n4_
          clear n0_ n1_ n2_ n3_ n4_
          refine start_ (n := 36) (S := fun w' => w'.cell? ⟨gb367, 0, none⟩ = some (.int .i64 a0_0) ∧ w'.cell? ⟨gb367, 1, none⟩ = some (.int .i64 a0_1) ∧ w'.cell? ⟨gb367, 2, none⟩ = some (.int .i64 a0_2) ∧ w'.cell? ⟨gb367, 3, none⟩ = some (.int .i64 a0_3) ∧ w'.cell? ⟨gb367, 4, none⟩ = some (.int .i64 a0_4) ∧ w'.cell? ⟨gb367, 5, none⟩ = some (.int .i64 a0_5) ∧ w'.cell? ⟨gb371, 0, none⟩ = some (.int .i64 a0_0) ∧ w'.cell? ⟨gb371, 1, none⟩ = some (.int .i64 a0_1) ∧ w'.cell? ⟨gb371, 2, none⟩ = some (.int .i64 a0_2) ∧ w'.cell? ⟨gb371, 3, none⟩ = some (.int .i64 a0_3) ∧ w'.cell? ⟨gb371, 4, none⟩ = some (.int .i64 a2_0) ∧ w'.cell? ⟨gb371, 5, none⟩ = some (.int .i64 a2_1) ∧ w'.cell? ⟨gb368, 0, none⟩ = some (.int .i64 a1_0) ∧ w'.cell? ⟨gb368, 1, none⟩ = some (.int .i64 a1_1) ∧ w'.cell? ⟨gb368, 2, none⟩ = some (.int .i64 a1_2) ∧ w'.cell? ⟨gb368, 3, none⟩ = some (.int .i64 a1_3) ∧ w'.cell? ⟨gb368, 4, none⟩ = some (.int .i64 a1_4) ∧ w'.cell? ⟨gb368, 5, none⟩ = some (.int .i64 a1_5)) (ds := []) #[false, false, false, false, false, false, false, false, false, false, false, false, false, false, false, false, false, false, false, false, false, false, false, false, false, false, false, false, false, false, false, false, false, false, false, false] (by kernel_rfl) rfl rfl ⟨(blk_cell BK367.out 0).trans rfl, (blk_cell BK367.out 1).trans rfl, (blk_cell BK367.out 2).trans rfl, (blk_cell BK367.out 3).trans rfl, (blk_cell BK367.out 4).trans rfl, (blk_cell BK367.out 5).trans rfl, (blk_cell BK371.out 0).trans rfl, (blk_cell BK371.out 1).trans rfl, (blk_cell BK371.out 2).trans rfl, (blk_cell BK371.out 3).trans rfl, (blk_cell BK371.out 4).trans rfl, (blk_cell BK371.out 5).trans rfl, (blk_cell BK368.out 0).trans rfl, (blk_cell BK368.out 1).trans rfl, (blk_cell BK368.out 2).trans rfl, (blk_cell BK368.out 3).trans rfl, (blk_cell BK368.out 4).trans rfl, (blk_cell BK368.out 5).trans rfl⟩ (fun hHeld => ?_); refine with_tabW wayfinderlaw04_RuleAct.tab4 wayfinderlaw04_RuleAct.bits4 (fun HT_ HW_ => ?_)
          generalize w32.drew = w33 at BK367 BK368 BK369 BK371 HB hHeld ⊢
          refine pure_ (i := 0) (N := some 17) (v := ?_) (a' := ?_) #[true, false, false, false, false, false, false, false, false, false, false, false, false, false, false, false, false, false, false, false, false, false, false, false, false, false, false, false, false, false, false, false, false, false, false, false] rfl rfl (any_of HT_.out (by kernel_rfl)) (fun _ _ _ h => h) (Or.inl ⟨by rfl, ?_⟩) ?_ ?_
          rotate_left
          · intro w'
            go_simp
            with_reducible rfl
          rotate_left
          · simp only [Act.put, List.setIfInBounds_toArray, List.set_cons_zero, List.set_cons_succ, i64_w, i32_w]
            rfl
          refine pure_ (i := 1) (N := some 18) (v := ?_) (a' := ?_) #[true, true, false, false, false, false, false, false, false, false, false, false, false, false, false, false, false, false, false, false, false, false, false, false, false, false, false, false, false, false, false, false, false, false, false, false] rfl rfl (any_of HT_.out (by kernel_rfl)) (fun _ _ _ h => h) (Or.inl ⟨by rfl, ?_⟩) ?_ ?_
          rotate_left
          · intro w'
            go_simp
            with_reducible rfl
          rotate_left
          · simp only [Act.put, List.setIfInBounds_toArray, List.set_cons_zero, List.set_cons_succ, i64_w, i32_w]
            rfl
          refine pure_ (i := 3) (N := some 20) (v := ?_) (a' := ?_) #[true, true, false, true, false, false, false, false, false, false, false, false, false, false, false, false, false, false, false, false, false, false, false, false, false, false, false, false, false, false, false, false, false, false, false, false] rfl rfl (any_of HT_.out (by kernel_rfl)) (fun _ _ _ h => h) (Or.inl ⟨by rfl, ?_⟩) ?_ ?_
          rotate_left
          · intro w'
            go_simp
            with_reducible rfl
          rotate_left
          · simp only [Act.put, List.setIfInBounds_toArray, List.set_cons_zero, List.set_cons_succ, i64_w, i32_w]
            rfl
          refine pure_ (i := 4) (N := some 21) (v := ?_) (a' := ?_) #[true, true, false, true, true, false, false, false, false, false, false, false, false, false, false, false, false, false, false, false, false, false, false, false, false, false, false, false, false, false, false, false, false, false, false, false] rfl rfl (any_of HT_.out (by kernel_rfl)) (fun _ _ _ h => h) (Or.inl ⟨by rfl, ?_⟩) ?_ ?_
          rotate_left
          · intro w'
            go_simp
            with_reducible rfl
          rotate_left
          · simp only [Act.put, List.setIfInBounds_toArray, List.set_cons_zero, List.set_cons_succ, i64_w, i32_w]
            rfl
          refine pure_ (i := 7) (N := some 24) (v := ?_) (a' := ?_) #[true, true, false, true, true, false, false, true, false, false, false, false, false, false, false, false, false, false, false, false, false, false, false, false, false, false, false, false, false, false, false, false, false, false, false, false] rfl rfl (any_of HT_.out (by kernel_rfl)) (fun _ _ _ h => h) (Or.inl ⟨by rfl, ?_⟩) ?_ ?_
          rotate_left
          · intro w'
            go_simp
            with_reducible rfl
          rotate_left
          · simp only [Act.put, List.setIfInBounds_toArray, List.set_cons_zero, List.set_cons_succ, i64_w, i32_w]
            rfl
          refine pure_ (i := 8) (N := some 25) (v := ?_) (a' := ?_) #[true, true, false, true, true, false, false, true, true, false, false, false, false, false, false, false, false, false, false, false, false, false, false, false, false, false, false, false, false, false, false, false, false, false, false, false] rfl rfl (any_of HT_.out (by kernel_rfl)) (fun _ _ _ h => h) (Or.inl ⟨by rfl, ?_⟩) ?_ ?_
          rotate_left
          · intro w'
            go_simp
            with_reducible rfl
          rotate_left
          · simp only [Act.put, List.setIfInBounds_toArray, List.set_cons_zero, List.set_cons_succ, i64_w, i32_w]
            rfl
          refine take_ (i := 2) (N := some 19) (v := ?_) (a' := ?_) #[true, true, true, true, true, false, false, true, true, false, false, false, false, false, false, false, false, false, false, false, false, false, false, false, false, false, false, false, false, false, false, false, false, false, false, false] rfl rfl (take_ofW HT_.out HW_.out (by kernel_rfl)) (fun _ _ _ h => h) (Or.inl ⟨by rfl, ?_⟩) hHeld ?_ ?_
          rotate_left
          · rintro w' ⟨s0, s1, s2, s3, s4, s5, s6, s7, s8, s9, s10, s11, s12, s13, s14, s15, s16, s17⟩
            go_simp
            with_reducible rfl
          rotate_left
          · simp only [Act.put, List.setIfInBounds_toArray, List.set_cons_zero, List.set_cons_succ, i64_w, i32_w]
            rfl
          refine take_ (i := 6) (N := some 23) (v := ?_) (a' := ?_) #[true, true, true, true, true, false, true, true, true, false, false, false, false, false, false, false, false, false, false, false, false, false, false, false, false, false, false, false, false, false, false, false, false, false, false, false] rfl rfl (take_ofW HT_.out HW_.out (by kernel_rfl)) (fun _ _ _ h => h) (Or.inl ⟨by rfl, ?_⟩) hHeld ?_ ?_
          rotate_left
          · rintro w' ⟨s0, s1, s2, s3, s4, s5, s6, s7, s8, s9, s10, s11, s12, s13, s14, s15, s16, s17⟩
            go_simp
            with_reducible rfl
          rotate_left
          · simp only [Act.put, List.setIfInBounds_toArray, List.set_cons_zero, List.set_cons_succ, i64_w, i32_w]
            rfl
          refine one_ (i := 5) (N := some 22) #[true, true, true, true, true, true, true, true, true, false, false, false, false, false, false, false, false, false, false, false, false, false, false, false, false, false, false, false, false, false, false, false, false, false, false, false] rfl rfl (one_of HT_.out (by kernel_rfl)) (by decide) (fun K hK => ?_)
          refine goes_ Try.func14 (by kernel_rfl) rfl #[.agg #[.int .i64 a0_0, .int .i64 a0_1, .int .i64 a0_2, .int .i64 a0_3, .int .i64 a0_4, .int .i64 a0_5], .int .i64 a3, .int .i64 a4] (by rfl) rfl rfl (by (try simp only [List.map_toArray, List.map_cons, List.map_nil]); first | done | rfl | (simp only [List.length_drop, List.length_take]; rfl)) ?_
          with_reducible refine (rule_Fits.calls a0_0 a0_1 a0_2 a0_3 a0_4 a0_5 a3 a4 t372 _ A8.out).mono ?_
          rintro e w34 ⟨rfl, hb⟩
          refine ⟨_, rfl, ?_⟩
          have n0_ := Aside0.mk (blk_below (g := gb367) (o := .cells #[.int .i64 a0_0, .int .i64 a0_1, .int .i64 a0_2, .int .i64 a0_3, .int .i64 a0_4, .int .i64 a0_5] 27 (0, 0)) (by (with_reducible repeat (first | refine blk_drewN ?_ _ | refine blk_drew ?_ | refine blk_alloc ?_ _)); exact BK367.out) hb)
          have n1_ := Aside0.mk (blk_below (g := gb368) (o := .cells #[.int .i64 a1_0, .int .i64 a1_1, .int .i64 a1_2, .int .i64 a1_3, .int .i64 a1_4, .int .i64 a1_5] 27 (0, 0)) (by (with_reducible repeat (first | refine blk_drewN ?_ _ | refine blk_drew ?_ | refine blk_alloc ?_ _)); exact BK368.out) hb)
          have n2_ := Aside0.mk (blk_below (g := gb369) (o := .cells #[.int .i64 a2_0, .int .i64 a2_1] 25 (0, 0)) (by (with_reducible repeat (first | refine blk_drewN ?_ _ | refine blk_drew ?_ | refine blk_alloc ?_ _)); exact BK369.out) hb)
          have n3_ := Aside0.mk (blk_below (g := gb371) (o := .cells #[.int .i64 a0_0, .int .i64 a0_1, .int .i64 a0_2, .int .i64 a0_3, .int .i64 a2_0, .int .i64 a2_1] 27 (0, 0)) (by (with_reducible repeat (first | refine blk_drewN ?_ _ | refine blk_drew ?_ | refine blk_alloc ?_ _)); exact BK371.out) hb)
          have n4_ := Aside0.mk (below_step (by repeat (first | (with_reducible first | exact HB.out | apply below_alloc | apply pw_below_drewN | apply below_drew1 | refine below_set ?_ GE367.out | refine below_set ?_ GE368.out | refine below_set ?_ GE369.out | refine below_set ?_ GE371.out) | exact HB.out)) hb)
          clear BK367
          clear BK368
          clear BK369
          clear BK371
          clear HB
          have BK367 := n0_
          have BK368 := n1_
          have BK369 := n2_
          have BK371 := n3_
          have HB := n4_
          clear n0_ n1_ n2_ n3_ n4_
          (try clear hb)
          (try clear hb2)
          (try clear hk)
          (try clear hi)
          refine hK.out _ _ ⟨(blk_cell BK367.out 0).trans rfl, (blk_cell BK367.out 1).trans rfl, (blk_cell BK367.out 2).trans rfl, (blk_cell BK367.out 3).trans rfl, (blk_cell BK367.out 4).trans rfl, (blk_cell BK367.out 5).trans rfl, (blk_cell BK371.out 0).trans rfl, (blk_cell BK371.out 1).trans rfl, (blk_cell BK371.out 2).trans rfl, (blk_cell BK371.out 3).trans rfl, (blk_cell BK371.out 4).trans rfl, (blk_cell BK371.out 5).trans rfl, (blk_cell BK368.out 0).trans rfl, (blk_cell BK368.out 1).trans rfl, (blk_cell BK368.out 2).trans rfl, (blk_cell BK368.out 3).trans rfl, (blk_cell BK368.out 4).trans rfl, (blk_cell BK368.out 5).trans rfl⟩ (fun hHeld => ?_)
          clear hK K
          refine norm_ (a' := ?_) ?_ ?_
          rotate_left
          · show Act.put _ (some 22) _ = _
            simp only [Act.put, List.setIfInBounds_toArray, List.set_cons_zero, List.set_cons_succ, i64_w, i32_w]
            rfl
          refine one_ (i := 9) (N := some 26) #[true, true, true, true, true, true, true, true, true, true, false, false, false, false, false, false, false, false, false, false, false, false, false, false, false, false, false, false, false, false, false, false, false, false, false, false] rfl rfl (one_of HT_.out (by kernel_rfl)) (by decide) (fun K hK => ?_)
          refine goes_ Try.func14 (by kernel_rfl) rfl #[.agg #[.int .i64 a0_0, .int .i64 a0_1, .int .i64 a0_2, .int .i64 a0_3, .int .i64 a2_0, .int .i64 a2_1], .int .i64 a3, .int .i64 a4] (by rfl) rfl rfl (by (try simp only [List.map_toArray, List.map_cons, List.map_nil]); first | done | rfl | (simp only [List.length_drop, List.length_take]; rfl)) ?_
          with_reducible refine (rule_Fits.calls a0_0 a0_1 a0_2 a0_3 a2_0 a2_1 a3 a4 t373 _ A9.out).mono ?_
          rintro e w35 ⟨rfl, hb⟩
          refine ⟨_, rfl, ?_⟩
          have n0_ := Aside0.mk (blk_below (g := gb367) (o := .cells #[.int .i64 a0_0, .int .i64 a0_1, .int .i64 a0_2, .int .i64 a0_3, .int .i64 a0_4, .int .i64 a0_5] 27 (0, 0)) (by (with_reducible repeat (first | refine blk_drewN ?_ _ | refine blk_drew ?_ | refine blk_alloc ?_ _)); exact BK367.out) hb)
          have n1_ := Aside0.mk (blk_below (g := gb368) (o := .cells #[.int .i64 a1_0, .int .i64 a1_1, .int .i64 a1_2, .int .i64 a1_3, .int .i64 a1_4, .int .i64 a1_5] 27 (0, 0)) (by (with_reducible repeat (first | refine blk_drewN ?_ _ | refine blk_drew ?_ | refine blk_alloc ?_ _)); exact BK368.out) hb)
          have n2_ := Aside0.mk (blk_below (g := gb369) (o := .cells #[.int .i64 a2_0, .int .i64 a2_1] 25 (0, 0)) (by (with_reducible repeat (first | refine blk_drewN ?_ _ | refine blk_drew ?_ | refine blk_alloc ?_ _)); exact BK369.out) hb)
          have n3_ := Aside0.mk (blk_below (g := gb371) (o := .cells #[.int .i64 a0_0, .int .i64 a0_1, .int .i64 a0_2, .int .i64 a0_3, .int .i64 a2_0, .int .i64 a2_1] 27 (0, 0)) (by (with_reducible repeat (first | refine blk_drewN ?_ _ | refine blk_drew ?_ | refine blk_alloc ?_ _)); exact BK371.out) hb)
          have n4_ := Aside0.mk (below_step (by repeat (first | (with_reducible first | exact HB.out | apply below_alloc | apply pw_below_drewN | apply below_drew1 | refine below_set ?_ GE367.out | refine below_set ?_ GE368.out | refine below_set ?_ GE369.out | refine below_set ?_ GE371.out) | exact HB.out)) hb)
          clear BK367
          clear BK368
          clear BK369
          clear BK371
          clear HB
          have BK367 := n0_
          have BK368 := n1_
          have BK369 := n2_
          have BK371 := n3_
          have HB := n4_
          clear n0_ n1_ n2_ n3_ n4_
          (try clear hb)
          (try clear hb2)
          (try clear hk)
          (try clear hi)
          refine hK.out _ _ ⟨(blk_cell BK367.out 0).trans rfl, (blk_cell BK367.out 1).trans rfl, (blk_cell BK367.out 2).trans rfl, (blk_cell BK367.out 3).trans rfl, (blk_cell BK367.out 4).trans rfl, (blk_cell BK367.out 5).trans rfl, (blk_cell BK371.out 0).trans rfl, (blk_cell BK371.out 1).trans rfl, (blk_cell BK371.out 2).trans rfl, (blk_cell BK371.out 3).trans rfl, (blk_cell BK371.out 4).trans rfl, (blk_cell BK371.out 5).trans rfl, (blk_cell BK368.out 0).trans rfl, (blk_cell BK368.out 1).trans rfl, (blk_cell BK368.out 2).trans rfl, (blk_cell BK368.out 3).trans rfl, (blk_cell BK368.out 4).trans rfl, (blk_cell BK368.out 5).trans rfl⟩ (fun hHeld => ?_)
          clear hK K
          refine norm_ (a' := ?_) ?_ ?_
          rotate_left
          · show Act.put _ (some 26) _ = _
            simp only [Act.put, List.setIfInBounds_toArray, List.set_cons_zero, List.set_cons_succ, i64_w, i32_w]
            rfl
          refine pure_ (i := 10) (N := some 27) (v := ?_) (a' := ?_) #[true, true, true, true, true, true, true, true, true, true, true, false, false, false, false, false, false, false, false, false, false, false, false, false, false, false, false, false, false, false, false, false, false, false, false, false] rfl rfl (any_of HT_.out (by kernel_rfl)) (fun _ _ _ h => h) (Or.inl ⟨by rfl, ?_⟩) ?_ ?_
          rotate_left
          · intro w'
            go_simp
            with_reducible rfl
          rotate_left
          · simp only [Act.put, List.setIfInBounds_toArray, List.set_cons_zero, List.set_cons_succ, i64_w, i32_w]
            rfl
          refine pure_ (i := 11) (N := some 28) (v := ?_) (a' := ?_) #[true, true, true, true, true, true, true, true, true, true, true, true, false, false, false, false, false, false, false, false, false, false, false, false, false, false, false, false, false, false, false, false, false, false, false, false] rfl rfl (any_of HT_.out (by kernel_rfl)) (fun _ _ _ h => h) (Or.inl ⟨by rfl, ?_⟩) ?_ ?_
          rotate_left
          · intro w'
            go_simp
            with_reducible rfl
          rotate_left
          · simp only [Act.put, List.setIfInBounds_toArray, List.set_cons_zero, List.set_cons_succ, i64_w, i32_w]
            rfl
          refine pure_ (i := 12) (N := some 29) (v := ?_) (a' := ?_) #[true, true, true, true, true, true, true, true, true, true, true, true, true, false, false, false, false, false, false, false, false, false, false, false, false, false, false, false, false, false, false, false, false, false, false, false] rfl rfl (any_of HT_.out (by kernel_rfl)) (fun _ _ _ h => h) (Or.inl ⟨by rfl, ?_⟩) ?_ ?_
          rotate_left
          · intro w'
            go_simp
            with_reducible rfl
          rotate_left
          · simp only [Act.put, List.setIfInBounds_toArray, List.set_cons_zero, List.set_cons_succ, i64_w, i32_w]
            rfl
          refine take_ (i := 13) (N := some 30) (v := ?_) (a' := ?_) #[true, true, true, true, true, true, true, true, true, true, true, true, true, true, false, false, false, false, false, false, false, false, false, false, false, false, false, false, false, false, false, false, false, false, false, false] rfl rfl (take_ofW HT_.out HW_.out (by kernel_rfl)) (fun _ _ _ h => h) (Or.inl ⟨by rfl, ?_⟩) hHeld ?_ ?_
          rotate_left
          · rintro w' ⟨s0, s1, s2, s3, s4, s5, s6, s7, s8, s9, s10, s11, s12, s13, s14, s15, s16, s17⟩
            go_simp
            with_reducible rfl
          rotate_left
          · simp only [Act.put, List.setIfInBounds_toArray, List.set_cons_zero, List.set_cons_succ, i64_w, i32_w]
            rfl
          refine take_ (i := 14) (N := some 31) (v := ?_) (a' := ?_) #[true, true, true, true, true, true, true, true, true, true, true, true, true, true, true, false, false, false, false, false, false, false, false, false, false, false, false, false, false, false, false, false, false, false, false, false] rfl rfl (take_ofW HT_.out HW_.out (by kernel_rfl)) (fun _ _ _ h => h) (Or.inl ⟨by rfl, ?_⟩) hHeld ?_ ?_
          rotate_left
          · rintro w' ⟨s0, s1, s2, s3, s4, s5, s6, s7, s8, s9, s10, s11, s12, s13, s14, s15, s16, s17⟩
            go_simp
            with_reducible rfl
          rotate_left
          · simp only [Act.put, List.setIfInBounds_toArray, List.set_cons_zero, List.set_cons_succ, i64_w, i32_w]
            rfl
          refine take_ (i := 16) (N := some 33) (v := ?_) (a' := ?_) #[true, true, true, true, true, true, true, true, true, true, true, true, true, true, true, false, true, false, false, false, false, false, false, false, false, false, false, false, false, false, false, false, false, false, false, false] rfl rfl (take_ofW HT_.out HW_.out (by kernel_rfl)) (fun _ _ _ h => h) (Or.inl ⟨by rfl, ?_⟩) hHeld ?_ ?_
          rotate_left
          · rintro w' ⟨s0, s1, s2, s3, s4, s5, s6, s7, s8, s9, s10, s11, s12, s13, s14, s15, s16, s17⟩
            go_simp
            with_reducible rfl
          rotate_left
          · simp only [Act.put, List.setIfInBounds_toArray, List.set_cons_zero, List.set_cons_succ, i64_w, i32_w]
            rfl
          refine take_ (i := 17) (N := some 34) (v := ?_) (a' := ?_) #[true, true, true, true, true, true, true, true, true, true, true, true, true, true, true, false, true, true, false, false, false, false, false, false, false, false, false, false, false, false, false, false, false, false, false, false] rfl rfl (take_ofW HT_.out HW_.out (by kernel_rfl)) (fun _ _ _ h => h) (Or.inl ⟨by rfl, ?_⟩) hHeld ?_ ?_
          rotate_left
          · rintro w' ⟨s0, s1, s2, s3, s4, s5, s6, s7, s8, s9, s10, s11, s12, s13, s14, s15, s16, s17⟩
            go_simp
            with_reducible rfl
          rotate_left
          · simp only [Act.put, List.setIfInBounds_toArray, List.set_cons_zero, List.set_cons_succ, i64_w, i32_w]
            rfl
          refine one_ (i := 15) (N := some 32) #[true, true, true, true, true, true, true, true, true, true, true, true, true, true, true, true, true, true, false, false, false, false, false, false, false, false, false, false, false, false, false, false, false, false, false, false] rfl rfl (one_of HT_.out (by kernel_rfl)) (by decide) (fun K hK => ?_)
          refine goes_ Try.func17 (by kernel_rfl) rfl #[.agg #[.int .i64 a0_0, .int .i64 a0_1, .int .i64 a0_2, .int .i64 a0_3, .int .i64 a0_4, .int .i64 a0_5], .agg #[.int .i64 a1_0, .int .i64 a1_1, .int .i64 a1_2, .int .i64 a1_3, .int .i64 a1_4, .int .i64 a1_5]] (by rfl) rfl rfl (by (try simp only [List.map_toArray, List.map_cons, List.map_nil]); first | done | rfl | (simp only [List.length_drop, List.length_take]; rfl)) ?_
          with_reducible refine (rule_Ahead.calls a0_0 a0_1 a0_2 a0_3 a0_4 a0_5 a1_0 a1_1 a1_2 a1_3 a1_4 a1_5 t374 _ A11.out).mono ?_
          rintro e w36 ⟨rfl, hb⟩
          refine ⟨_, rfl, ?_⟩
          have n0_ := Aside0.mk (blk_below (g := gb367) (o := .cells #[.int .i64 a0_0, .int .i64 a0_1, .int .i64 a0_2, .int .i64 a0_3, .int .i64 a0_4, .int .i64 a0_5] 27 (0, 0)) (by (with_reducible repeat (first | refine blk_drewN ?_ _ | refine blk_drew ?_ | refine blk_alloc ?_ _)); exact BK367.out) hb)
          have n1_ := Aside0.mk (blk_below (g := gb368) (o := .cells #[.int .i64 a1_0, .int .i64 a1_1, .int .i64 a1_2, .int .i64 a1_3, .int .i64 a1_4, .int .i64 a1_5] 27 (0, 0)) (by (with_reducible repeat (first | refine blk_drewN ?_ _ | refine blk_drew ?_ | refine blk_alloc ?_ _)); exact BK368.out) hb)
          have n2_ := Aside0.mk (blk_below (g := gb369) (o := .cells #[.int .i64 a2_0, .int .i64 a2_1] 25 (0, 0)) (by (with_reducible repeat (first | refine blk_drewN ?_ _ | refine blk_drew ?_ | refine blk_alloc ?_ _)); exact BK369.out) hb)
          have n3_ := Aside0.mk (blk_below (g := gb371) (o := .cells #[.int .i64 a0_0, .int .i64 a0_1, .int .i64 a0_2, .int .i64 a0_3, .int .i64 a2_0, .int .i64 a2_1] 27 (0, 0)) (by (with_reducible repeat (first | refine blk_drewN ?_ _ | refine blk_drew ?_ | refine blk_alloc ?_ _)); exact BK371.out) hb)
          have n4_ := Aside0.mk (below_step (by repeat (first | (with_reducible first | exact HB.out | apply below_alloc | apply pw_below_drewN | apply below_drew1 | refine below_set ?_ GE367.out | refine below_set ?_ GE368.out | refine below_set ?_ GE369.out | refine below_set ?_ GE371.out) | exact HB.out)) hb)
          clear BK367
          clear BK368
          clear BK369
          clear BK371
          clear HB
          have BK367 := n0_
          have BK368 := n1_
          have BK369 := n2_
          have BK371 := n3_
          have HB := n4_
          clear n0_ n1_ n2_ n3_ n4_
          (try clear hb)
          (try clear hb2)
          (try clear hk)
          (try clear hi)
          refine hK.out _ _ ⟨(blk_cell BK367.out 0).trans rfl, (blk_cell BK367.out 1).trans rfl, (blk_cell BK367.out 2).trans rfl, (blk_cell BK367.out 3).trans rfl, (blk_cell BK367.out 4).trans rfl, (blk_cell BK367.out 5).trans rfl, (blk_cell BK371.out 0).trans rfl, (blk_cell BK371.out 1).trans rfl, (blk_cell BK371.out 2).trans rfl, (blk_cell BK371.out 3).trans rfl, (blk_cell BK371.out 4).trans rfl, (blk_cell BK371.out 5).trans rfl, (blk_cell BK368.out 0).trans rfl, (blk_cell BK368.out 1).trans rfl, (blk_cell BK368.out 2).trans rfl, (blk_cell BK368.out 3).trans rfl, (blk_cell BK368.out 4).trans rfl, (blk_cell BK368.out 5).trans rfl⟩ (fun hHeld => ?_)
          clear hK K
          refine norm_ (a' := ?_) ?_ ?_
          rotate_left
          · show Act.put _ (some 32) _ = _
            simp only [Act.put, List.setIfInBounds_toArray, List.set_cons_zero, List.set_cons_succ, i64_w, i32_w]
            rfl
          refine one_ (i := 18) (N := some 35) #[true, true, true, true, true, true, true, true, true, true, true, true, true, true, true, true, true, true, true, false, false, false, false, false, false, false, false, false, false, false, false, false, false, false, false, false] rfl rfl (one_of HT_.out (by kernel_rfl)) (by decide) (fun K hK => ?_)
          refine goes_ Try.func17 (by kernel_rfl) rfl #[.agg #[.int .i64 a0_0, .int .i64 a0_1, .int .i64 a0_2, .int .i64 a0_3, .int .i64 a2_0, .int .i64 a2_1], .agg #[.int .i64 a1_0, .int .i64 a1_1, .int .i64 a1_2, .int .i64 a1_3, .int .i64 a1_4, .int .i64 a1_5]] (by rfl) rfl rfl (by (try simp only [List.map_toArray, List.map_cons, List.map_nil]); first | done | rfl | (simp only [List.length_drop, List.length_take]; rfl)) ?_
          with_reducible refine (rule_Ahead.calls a0_0 a0_1 a0_2 a0_3 a2_0 a2_1 a1_0 a1_1 a1_2 a1_3 a1_4 a1_5 t375 _ A12.out).mono ?_
          rintro e w37 ⟨rfl, hb⟩
          refine ⟨_, rfl, ?_⟩
          have n0_ := Aside0.mk (blk_below (g := gb367) (o := .cells #[.int .i64 a0_0, .int .i64 a0_1, .int .i64 a0_2, .int .i64 a0_3, .int .i64 a0_4, .int .i64 a0_5] 27 (0, 0)) (by (with_reducible repeat (first | refine blk_drewN ?_ _ | refine blk_drew ?_ | refine blk_alloc ?_ _)); exact BK367.out) hb)
          have n1_ := Aside0.mk (blk_below (g := gb368) (o := .cells #[.int .i64 a1_0, .int .i64 a1_1, .int .i64 a1_2, .int .i64 a1_3, .int .i64 a1_4, .int .i64 a1_5] 27 (0, 0)) (by (with_reducible repeat (first | refine blk_drewN ?_ _ | refine blk_drew ?_ | refine blk_alloc ?_ _)); exact BK368.out) hb)
          have n2_ := Aside0.mk (blk_below (g := gb369) (o := .cells #[.int .i64 a2_0, .int .i64 a2_1] 25 (0, 0)) (by (with_reducible repeat (first | refine blk_drewN ?_ _ | refine blk_drew ?_ | refine blk_alloc ?_ _)); exact BK369.out) hb)
          have n3_ := Aside0.mk (blk_below (g := gb371) (o := .cells #[.int .i64 a0_0, .int .i64 a0_1, .int .i64 a0_2, .int .i64 a0_3, .int .i64 a2_0, .int .i64 a2_1] 27 (0, 0)) (by (with_reducible repeat (first | refine blk_drewN ?_ _ | refine blk_drew ?_ | refine blk_alloc ?_ _)); exact BK371.out) hb)
          have n4_ := Aside0.mk (below_step (by repeat (first | (with_reducible first | exact HB.out | apply below_alloc | apply pw_below_drewN | apply below_drew1 | refine below_set ?_ GE367.out | refine below_set ?_ GE368.out | refine below_set ?_ GE369.out | refine below_set ?_ GE371.out) | exact HB.out)) hb)
          clear BK367
          clear BK368
          clear BK369
          clear BK371
          clear HB
          have BK367 := n0_
          have BK368 := n1_
          have BK369 := n2_
          have BK371 := n3_
          have HB := n4_
          clear n0_ n1_ n2_ n3_ n4_
          (try clear hb)
          (try clear hb2)
          (try clear hk)
          (try clear hi)
          refine hK.out _ _ ⟨(blk_cell BK367.out 0).trans rfl, (blk_cell BK367.out 1).trans rfl, (blk_cell BK367.out 2).trans rfl, (blk_cell BK367.out 3).trans rfl, (blk_cell BK367.out 4).trans rfl, (blk_cell BK367.out 5).trans rfl, (blk_cell BK371.out 0).trans rfl, (blk_cell BK371.out 1).trans rfl, (blk_cell BK371.out 2).trans rfl, (blk_cell BK371.out 3).trans rfl, (blk_cell BK371.out 4).trans rfl, (blk_cell BK371.out 5).trans rfl, (blk_cell BK368.out 0).trans rfl, (blk_cell BK368.out 1).trans rfl, (blk_cell BK368.out 2).trans rfl, (blk_cell BK368.out 3).trans rfl, (blk_cell BK368.out 4).trans rfl, (blk_cell BK368.out 5).trans rfl⟩ (fun hHeld => ?_)
          clear hK K
          refine norm_ (a' := ?_) ?_ ?_
          rotate_left
          · show Act.put _ (some 35) _ = _
            simp only [Act.put, List.setIfInBounds_toArray, List.set_cons_zero, List.set_cons_succ, i64_w, i32_w]
            rfl
          refine pure_ (i := 19) (N := some 36) (v := ?_) (a' := ?_) #[true, true, true, true, true, true, true, true, true, true, true, true, true, true, true, true, true, true, true, true, false, false, false, false, false, false, false, false, false, false, false, false, false, false, false, false] rfl rfl (any_of HT_.out (by kernel_rfl)) (fun _ _ _ h => h) (Or.inl ⟨by rfl, ?_⟩) ?_ ?_
          rotate_left
          · intro w'
            go_simp
            with_reducible rfl
          rotate_left
          · simp only [Act.put, List.setIfInBounds_toArray, List.set_cons_zero, List.set_cons_succ, i64_w, i32_w]
            rfl
          refine pure_ (i := 20) (N := some 37) (v := ?_) (a' := ?_) #[true, true, true, true, true, true, true, true, true, true, true, true, true, true, true, true, true, true, true, true, true, false, false, false, false, false, false, false, false, false, false, false, false, false, false, false] rfl rfl (any_of HT_.out (by kernel_rfl)) (fun _ _ _ h => h) (Or.inl ⟨by rfl, ?_⟩) ?_ ?_
          rotate_left
          · intro w'
            go_simp
            with_reducible rfl
          rotate_left
          · simp only [Act.put, List.setIfInBounds_toArray, List.set_cons_zero, List.set_cons_succ, i64_w, i32_w]
            rfl
          refine pure_ (i := 21) (N := some 38) (v := ?_) (a' := ?_) #[true, true, true, true, true, true, true, true, true, true, true, true, true, true, true, true, true, true, true, true, true, true, false, false, false, false, false, false, false, false, false, false, false, false, false, false] rfl rfl (any_of HT_.out (by kernel_rfl)) (fun _ _ _ h => h) (Or.inl ⟨by rfl, ?_⟩) ?_ ?_
          rotate_left
          · intro w'
            go_simp
            with_reducible rfl
          rotate_left
          · simp only [Act.put, List.setIfInBounds_toArray, List.set_cons_zero, List.set_cons_succ, i64_w, i32_w]
            rfl
          refine take_ (i := 22) (N := some 39) (v := ?_) (a' := ?_) #[true, true, true, true, true, true, true, true, true, true, true, true, true, true, true, true, true, true, true, true, true, true, true, false, false, false, false, false, false, false, false, false, false, false, false, false] rfl rfl (take_ofW HT_.out HW_.out (by kernel_rfl)) (fun _ _ _ h => h) (Or.inl ⟨by rfl, ?_⟩) hHeld ?_ ?_
          rotate_left
          · rintro w' ⟨s0, s1, s2, s3, s4, s5, s6, s7, s8, s9, s10, s11, s12, s13, s14, s15, s16, s17⟩
            go_simp
            with_reducible rfl
          rotate_left
          · simp only [Act.put, List.setIfInBounds_toArray, List.set_cons_zero, List.set_cons_succ, i64_w, i32_w]
            rfl
          refine take_ (i := 23) (N := some 40) (v := ?_) (a' := ?_) #[true, true, true, true, true, true, true, true, true, true, true, true, true, true, true, true, true, true, true, true, true, true, true, true, false, false, false, false, false, false, false, false, false, false, false, false] rfl rfl (take_ofW HT_.out HW_.out (by kernel_rfl)) (fun _ _ _ h => h) (Or.inl ⟨by rfl, ?_⟩) hHeld ?_ ?_
          rotate_left
          · rintro w' ⟨s0, s1, s2, s3, s4, s5, s6, s7, s8, s9, s10, s11, s12, s13, s14, s15, s16, s17⟩
            go_simp
            with_reducible rfl
          rotate_left
          · simp only [Act.put, List.setIfInBounds_toArray, List.set_cons_zero, List.set_cons_succ, i64_w, i32_w]
            rfl
          refine take_ (i := 25) (N := some 42) (v := ?_) (a' := ?_) #[true, true, true, true, true, true, true, true, true, true, true, true, true, true, true, true, true, true, true, true, true, true, true, true, false, true, false, false, false, false, false, false, false, false, false, false] rfl rfl (take_ofW HT_.out HW_.out (by kernel_rfl)) (fun _ _ _ h => h) (Or.inl ⟨by rfl, ?_⟩) hHeld ?_ ?_
          rotate_left
          · rintro w' ⟨s0, s1, s2, s3, s4, s5, s6, s7, s8, s9, s10, s11, s12, s13, s14, s15, s16, s17⟩
            go_simp
            with_reducible rfl
          rotate_left
          · simp only [Act.put, List.setIfInBounds_toArray, List.set_cons_zero, List.set_cons_succ, i64_w, i32_w]
            rfl
          refine take_ (i := 26) (N := some 43) (v := ?_) (a' := ?_) #[true, true, true, true, true, true, true, true, true, true, true, true, true, true, true, true, true, true, true, true, true, true, true, true, false, true, true, false, false, false, false, false, false, false, false, false] rfl rfl (take_ofW HT_.out HW_.out (by kernel_rfl)) (fun _ _ _ h => h) (Or.inl ⟨by rfl, ?_⟩) hHeld ?_ ?_
          rotate_left
          · rintro w' ⟨s0, s1, s2, s3, s4, s5, s6, s7, s8, s9, s10, s11, s12, s13, s14, s15, s16, s17⟩
            go_simp
            with_reducible rfl
          rotate_left
          · simp only [Act.put, List.setIfInBounds_toArray, List.set_cons_zero, List.set_cons_succ, i64_w, i32_w]
            rfl
          refine one_ (i := 24) (N := some 41) #[true, true, true, true, true, true, true, true, true, true, true, true, true, true, true, true, true, true, true, true, true, true, true, true, true, true, true, false, false, false, false, false, false, false, false, false] rfl rfl (one_of HT_.out (by kernel_rfl)) (by decide) (fun K hK => ?_)
          refine goes_ Try.func24 (by kernel_rfl) rfl #[.agg #[.int .i64 a0_0, .int .i64 a0_1, .int .i64 a0_2, .int .i64 a0_3, .int .i64 a0_4, .int .i64 a0_5], .agg #[.int .i64 a1_0, .int .i64 a1_1, .int .i64 a1_2, .int .i64 a1_3, .int .i64 a1_4, .int .i64 a1_5]] (by rfl) rfl rfl (by (try simp only [List.map_toArray, List.map_cons, List.map_nil]); first | done | rfl | (simp only [List.length_drop, List.length_take]; rfl)) ?_
          with_reducible refine (rule_Alike.calls a0_0 a0_1 a0_2 a0_3 a0_4 a0_5 a1_0 a1_1 a1_2 a1_3 a1_4 a1_5 t376 _ A14.out).mono ?_
          rintro e w38 ⟨rfl, hb⟩
          refine ⟨_, rfl, ?_⟩
          have n0_ := Aside0.mk (blk_below (g := gb367) (o := .cells #[.int .i64 a0_0, .int .i64 a0_1, .int .i64 a0_2, .int .i64 a0_3, .int .i64 a0_4, .int .i64 a0_5] 27 (0, 0)) (by (with_reducible repeat (first | refine blk_drewN ?_ _ | refine blk_drew ?_ | refine blk_alloc ?_ _)); exact BK367.out) hb)
          have n1_ := Aside0.mk (blk_below (g := gb368) (o := .cells #[.int .i64 a1_0, .int .i64 a1_1, .int .i64 a1_2, .int .i64 a1_3, .int .i64 a1_4, .int .i64 a1_5] 27 (0, 0)) (by (with_reducible repeat (first | refine blk_drewN ?_ _ | refine blk_drew ?_ | refine blk_alloc ?_ _)); exact BK368.out) hb)
          have n2_ := Aside0.mk (blk_below (g := gb369) (o := .cells #[.int .i64 a2_0, .int .i64 a2_1] 25 (0, 0)) (by (with_reducible repeat (first | refine blk_drewN ?_ _ | refine blk_drew ?_ | refine blk_alloc ?_ _)); exact BK369.out) hb)
          have n3_ := Aside0.mk (blk_below (g := gb371) (o := .cells #[.int .i64 a0_0, .int .i64 a0_1, .int .i64 a0_2, .int .i64 a0_3, .int .i64 a2_0, .int .i64 a2_1] 27 (0, 0)) (by (with_reducible repeat (first | refine blk_drewN ?_ _ | refine blk_drew ?_ | refine blk_alloc ?_ _)); exact BK371.out) hb)
          have n4_ := Aside0.mk (below_step (by repeat (first | (with_reducible first | exact HB.out | apply below_alloc | apply pw_below_drewN | apply below_drew1 | refine below_set ?_ GE367.out | refine below_set ?_ GE368.out | refine below_set ?_ GE369.out | refine below_set ?_ GE371.out) | exact HB.out)) hb)
          clear BK367
          clear BK368
          clear BK369
          clear BK371
          clear HB
          have BK367 := n0_
          have BK368 := n1_
          have BK369 := n2_
          have BK371 := n3_
          have HB := n4_
          clear n0_ n1_ n2_ n3_ n4_
          (try clear hb)
          (try clear hb2)
          (try clear hk)
          (try clear hi)
          refine hK.out _ _ ⟨(blk_cell BK367.out 0).trans rfl, (blk_cell BK367.out 1).trans rfl, (blk_cell BK367.out 2).trans rfl, (blk_cell BK367.out 3).trans rfl, (blk_cell BK367.out 4).trans rfl, (blk_cell BK367.out 5).trans rfl, (blk_cell BK371.out 0).trans rfl, (blk_cell BK371.out 1).trans rfl, (blk_cell BK371.out 2).trans rfl, (blk_cell BK371.out 3).trans rfl, (blk_cell BK371.out 4).trans rfl, (blk_cell BK371.out 5).trans rfl, (blk_cell BK368.out 0).trans rfl, (blk_cell BK368.out 1).trans rfl, (blk_cell BK368.out 2).trans rfl, (blk_cell BK368.out 3).trans rfl, (blk_cell BK368.out 4).trans rfl, (blk_cell BK368.out 5).trans rfl⟩ (fun hHeld => ?_)
          clear hK K
          refine norm_ (a' := ?_) ?_ ?_
          rotate_left
          · show Act.put _ (some 41) _ = _
            simp only [Act.put, List.setIfInBounds_toArray, List.set_cons_zero, List.set_cons_succ, i64_w, i32_w]
            rfl
          refine one_ (i := 27) (N := some 44) #[true, true, true, true, true, true, true, true, true, true, true, true, true, true, true, true, true, true, true, true, true, true, true, true, true, true, true, true, false, false, false, false, false, false, false, false] rfl rfl (one_of HT_.out (by kernel_rfl)) (by decide) (fun K hK => ?_)
          refine goes_ Try.func24 (by kernel_rfl) rfl #[.agg #[.int .i64 a0_0, .int .i64 a0_1, .int .i64 a0_2, .int .i64 a0_3, .int .i64 a2_0, .int .i64 a2_1], .agg #[.int .i64 a1_0, .int .i64 a1_1, .int .i64 a1_2, .int .i64 a1_3, .int .i64 a1_4, .int .i64 a1_5]] (by rfl) rfl rfl (by (try simp only [List.map_toArray, List.map_cons, List.map_nil]); first | done | rfl | (simp only [List.length_drop, List.length_take]; rfl)) ?_
          with_reducible refine (rule_Alike.calls a0_0 a0_1 a0_2 a0_3 a2_0 a2_1 a1_0 a1_1 a1_2 a1_3 a1_4 a1_5 t377 _ A15.out).mono ?_
          rintro e w39 ⟨rfl, hb⟩
          refine ⟨_, rfl, ?_⟩
          have n0_ := Aside0.mk (blk_below (g := gb367) (o := .cells #[.int .i64 a0_0, .int .i64 a0_1, .int .i64 a0_2, .int .i64 a0_3, .int .i64 a0_4, .int .i64 a0_5] 27 (0, 0)) (by (with_reducible repeat (first | refine blk_drewN ?_ _ | refine blk_drew ?_ | refine blk_alloc ?_ _)); exact BK367.out) hb)
          have n1_ := Aside0.mk (blk_below (g := gb368) (o := .cells #[.int .i64 a1_0, .int .i64 a1_1, .int .i64 a1_2, .int .i64 a1_3, .int .i64 a1_4, .int .i64 a1_5] 27 (0, 0)) (by (with_reducible repeat (first | refine blk_drewN ?_ _ | refine blk_drew ?_ | refine blk_alloc ?_ _)); exact BK368.out) hb)
          have n2_ := Aside0.mk (blk_below (g := gb369) (o := .cells #[.int .i64 a2_0, .int .i64 a2_1] 25 (0, 0)) (by (with_reducible repeat (first | refine blk_drewN ?_ _ | refine blk_drew ?_ | refine blk_alloc ?_ _)); exact BK369.out) hb)
          have n3_ := Aside0.mk (blk_below (g := gb371) (o := .cells #[.int .i64 a0_0, .int .i64 a0_1, .int .i64 a0_2, .int .i64 a0_3, .int .i64 a2_0, .int .i64 a2_1] 27 (0, 0)) (by (with_reducible repeat (first | refine blk_drewN ?_ _ | refine blk_drew ?_ | refine blk_alloc ?_ _)); exact BK371.out) hb)
          have n4_ := Aside0.mk (below_step (by repeat (first | (with_reducible first | exact HB.out | apply below_alloc | apply pw_below_drewN | apply below_drew1 | refine below_set ?_ GE367.out | refine below_set ?_ GE368.out | refine below_set ?_ GE369.out | refine below_set ?_ GE371.out) | exact HB.out)) hb)
          clear BK367
          clear BK368
          clear BK369
          clear BK371
          clear HB
          have BK367 := n0_
          have BK368 := n1_
          have BK369 := n2_
          have BK371 := n3_
          have HB := n4_
          clear n0_ n1_ n2_ n3_ n4_
          (try clear hb)
          (try clear hb2)
          (try clear hk)
          (try clear hi)
          refine hK.out _ _ ⟨(blk_cell BK367.out 0).trans rfl, (blk_cell BK367.out 1).trans rfl, (blk_cell BK367.out 2).trans rfl, (blk_cell BK367.out 3).trans rfl, (blk_cell BK367.out 4).trans rfl, (blk_cell BK367.out 5).trans rfl, (blk_cell BK371.out 0).trans rfl, (blk_cell BK371.out 1).trans rfl, (blk_cell BK371.out 2).trans rfl, (blk_cell BK371.out 3).trans rfl, (blk_cell BK371.out 4).trans rfl, (blk_cell BK371.out 5).trans rfl, (blk_cell BK368.out 0).trans rfl, (blk_cell BK368.out 1).trans rfl, (blk_cell BK368.out 2).trans rfl, (blk_cell BK368.out 3).trans rfl, (blk_cell BK368.out 4).trans rfl, (blk_cell BK368.out 5).trans rfl⟩ (fun hHeld => ?_)
          clear hK K
          refine norm_ (a' := ?_) ?_ ?_
          rotate_left
          · show Act.put _ (some 44) _ = _
            simp only [Act.put, List.setIfInBounds_toArray, List.set_cons_zero, List.set_cons_succ, i64_w, i32_w]
            rfl
          refine pure_ (i := 28) (N := some 45) (v := ?_) (a' := ?_) #[true, true, true, true, true, true, true, true, true, true, true, true, true, true, true, true, true, true, true, true, true, true, true, true, true, true, true, true, true, false, false, false, false, false, false, false] rfl rfl (any_of HT_.out (by kernel_rfl)) (fun _ _ _ h => h) (Or.inl ⟨by rfl, ?_⟩) ?_ ?_
          rotate_left
          · intro w'
            go_simp
            with_reducible rfl
          rotate_left
          · simp only [Act.put, List.setIfInBounds_toArray, List.set_cons_zero, List.set_cons_succ, i64_w, i32_w]
            rfl
          refine pure_ (i := 29) (N := some 46) (v := ?_) (a' := ?_) #[true, true, true, true, true, true, true, true, true, true, true, true, true, true, true, true, true, true, true, true, true, true, true, true, true, true, true, true, true, true, false, false, false, false, false, false] rfl rfl (any_of HT_.out (by kernel_rfl)) (fun _ _ _ h => h) (Or.inl ⟨by rfl, ?_⟩) ?_ ?_
          rotate_left
          · intro w'
            go_simp
            with_reducible rfl
          rotate_left
          · simp only [Act.put, List.setIfInBounds_toArray, List.set_cons_zero, List.set_cons_succ, i64_w, i32_w]
            rfl
          refine pure_ (i := 30) (N := some 47) (v := ?_) (a' := ?_) #[true, true, true, true, true, true, true, true, true, true, true, true, true, true, true, true, true, true, true, true, true, true, true, true, true, true, true, true, true, true, true, false, false, false, false, false] rfl rfl (any_of HT_.out (by kernel_rfl)) (fun _ _ _ h => h) (Or.inl ⟨by rfl, ?_⟩) ?_ ?_
          rotate_left
          · intro w'
            go_simp
            with_reducible rfl
          rotate_left
          · simp only [Act.put, List.setIfInBounds_toArray, List.set_cons_zero, List.set_cons_succ, i64_w, i32_w]
            rfl
          refine take_ (i := 31) (N := some 48) (v := ?_) (a' := ?_) #[true, true, true, true, true, true, true, true, true, true, true, true, true, true, true, true, true, true, true, true, true, true, true, true, true, true, true, true, true, true, true, true, false, false, false, false] rfl rfl (take_ofW HT_.out HW_.out (by kernel_rfl)) (fun _ _ _ h => h) (Or.inl ⟨by rfl, ?_⟩) hHeld ?_ ?_
          rotate_left
          · rintro w' ⟨s0, s1, s2, s3, s4, s5, s6, s7, s8, s9, s10, s11, s12, s13, s14, s15, s16, s17⟩
            go_simp
            with_reducible rfl
          rotate_left
          · simp only [Act.put, List.setIfInBounds_toArray, List.set_cons_zero, List.set_cons_succ, i64_w, i32_w]
            rfl
          refine take_ (i := 32) (N := some 49) (v := ?_) (a' := ?_) #[true, true, true, true, true, true, true, true, true, true, true, true, true, true, true, true, true, true, true, true, true, true, true, true, true, true, true, true, true, true, true, true, true, false, false, false] rfl rfl (take_ofW HT_.out HW_.out (by kernel_rfl)) (fun _ _ _ h => h) (Or.inl ⟨by rfl, ?_⟩) hHeld ?_ ?_
          rotate_left
          · rintro w' ⟨s0, s1, s2, s3, s4, s5, s6, s7, s8, s9, s10, s11, s12, s13, s14, s15, s16, s17⟩
            go_simp
            with_reducible rfl
          rotate_left
          · simp only [Act.put, List.setIfInBounds_toArray, List.set_cons_zero, List.set_cons_succ, i64_w, i32_w]
            rfl
          refine one_ (i := 33) (N := some 50) #[true, true, true, true, true, true, true, true, true, true, true, true, true, true, true, true, true, true, true, true, true, true, true, true, true, true, true, true, true, true, true, true, true, true, false, false] rfl rfl (one_of HT_.out (by kernel_rfl)) (by decide) (fun K hK => ?_)
          refine goes_ Try.func24 (by kernel_rfl) rfl #[.agg #[.int .i64 a0_0, .int .i64 a0_1, .int .i64 a0_2, .int .i64 a0_3, .int .i64 a0_4, .int .i64 a0_5], .agg #[.int .i64 a0_0, .int .i64 a0_1, .int .i64 a0_2, .int .i64 a0_3, .int .i64 a2_0, .int .i64 a2_1]] (by rfl) rfl rfl (by (try simp only [List.map_toArray, List.map_cons, List.map_nil]); first | done | rfl | (simp only [List.length_drop, List.length_take]; rfl)) ?_
          with_reducible refine (rule_Alike.calls a0_0 a0_1 a0_2 a0_3 a0_4 a0_5 a0_0 a0_1 a0_2 a0_3 a2_0 a2_1 t378 _ A17.out).mono ?_
          rintro e w40 ⟨rfl, hb⟩
          refine ⟨_, rfl, ?_⟩
          have n0_ := Aside0.mk (blk_below (g := gb367) (o := .cells #[.int .i64 a0_0, .int .i64 a0_1, .int .i64 a0_2, .int .i64 a0_3, .int .i64 a0_4, .int .i64 a0_5] 27 (0, 0)) (by (with_reducible repeat (first | refine blk_drewN ?_ _ | refine blk_drew ?_ | refine blk_alloc ?_ _)); exact BK367.out) hb)
          have n1_ := Aside0.mk (blk_below (g := gb368) (o := .cells #[.int .i64 a1_0, .int .i64 a1_1, .int .i64 a1_2, .int .i64 a1_3, .int .i64 a1_4, .int .i64 a1_5] 27 (0, 0)) (by (with_reducible repeat (first | refine blk_drewN ?_ _ | refine blk_drew ?_ | refine blk_alloc ?_ _)); exact BK368.out) hb)
          have n2_ := Aside0.mk (blk_below (g := gb369) (o := .cells #[.int .i64 a2_0, .int .i64 a2_1] 25 (0, 0)) (by (with_reducible repeat (first | refine blk_drewN ?_ _ | refine blk_drew ?_ | refine blk_alloc ?_ _)); exact BK369.out) hb)
          have n3_ := Aside0.mk (blk_below (g := gb371) (o := .cells #[.int .i64 a0_0, .int .i64 a0_1, .int .i64 a0_2, .int .i64 a0_3, .int .i64 a2_0, .int .i64 a2_1] 27 (0, 0)) (by (with_reducible repeat (first | refine blk_drewN ?_ _ | refine blk_drew ?_ | refine blk_alloc ?_ _)); exact BK371.out) hb)
          have n4_ := Aside0.mk (below_step (by repeat (first | (with_reducible first | exact HB.out | apply below_alloc | apply pw_below_drewN | apply below_drew1 | refine below_set ?_ GE367.out | refine below_set ?_ GE368.out | refine below_set ?_ GE369.out | refine below_set ?_ GE371.out) | exact HB.out)) hb)
          clear BK367
          clear BK368
          clear BK369
          clear BK371
          clear HB
          have BK367 := n0_
          have BK368 := n1_
          have BK369 := n2_
          have BK371 := n3_
          have HB := n4_
          clear n0_ n1_ n2_ n3_ n4_
          (try clear hb)
          (try clear hb2)
          (try clear hk)
          (try clear hi)
          refine hK.out _ _ ⟨(blk_cell BK367.out 0).trans rfl, (blk_cell BK367.out 1).trans rfl, (blk_cell BK367.out 2).trans rfl, (blk_cell BK367.out 3).trans rfl, (blk_cell BK367.out 4).trans rfl, (blk_cell BK367.out 5).trans rfl, (blk_cell BK371.out 0).trans rfl, (blk_cell BK371.out 1).trans rfl, (blk_cell BK371.out 2).trans rfl, (blk_cell BK371.out 3).trans rfl, (blk_cell BK371.out 4).trans rfl, (blk_cell BK371.out 5).trans rfl, (blk_cell BK368.out 0).trans rfl, (blk_cell BK368.out 1).trans rfl, (blk_cell BK368.out 2).trans rfl, (blk_cell BK368.out 3).trans rfl, (blk_cell BK368.out 4).trans rfl, (blk_cell BK368.out 5).trans rfl⟩ (fun hHeld => ?_)
          clear hK K
          refine norm_ (a' := ?_) ?_ ?_
          rotate_left
          · show Act.put _ (some 50) _ = _
            simp only [Act.put, List.setIfInBounds_toArray, List.set_cons_zero, List.set_cons_succ, i64_w, i32_w]
            rfl
          refine pure_ (i := 34) (N := some 51) (v := ?_) (a' := ?_) #[true, true, true, true, true, true, true, true, true, true, true, true, true, true, true, true, true, true, true, true, true, true, true, true, true, true, true, true, true, true, true, true, true, true, true, false] rfl rfl (any_of HT_.out (by kernel_rfl)) (fun _ _ _ h => h) (Or.inl ⟨by rfl, ?_⟩) ?_ ?_
          rotate_left
          · intro w'
            go_simp
            with_reducible rfl
          rotate_left
          · simp only [Act.put, List.setIfInBounds_toArray, List.set_cons_zero, List.set_cons_succ, i64_w, i32_w]
            rfl
          refine pure_ (i := 35) (N := some 10) (v := ?_) (a' := ?_) #[true, true, true, true, true, true, true, true, true, true, true, true, true, true, true, true, true, true, true, true, true, true, true, true, true, true, true, true, true, true, true, true, true, true, true, true] rfl rfl (any_of HT_.out (by kernel_rfl)) (fun _ _ _ h => h) (Or.inl ⟨by rfl, ?_⟩) ?_ ?_
          rotate_left
          · intro w'
            go_simp
            with_reducible rfl
          rotate_left
          · simp only [Act.put, List.setIfInBounds_toArray, List.set_cons_zero, List.set_cons_succ, i64_w, i32_w]
            rfl
          refine done_ (done_of HT_.out (by kernel_rfl)) ?_
          try go_wp2
          go_ret
          exact ⟨by first | rfl | (simp [errW_none, errW_some] <;> rfl) | (simp [*, errW_none, errW_some] <;> rfl), by repeat (first | (with_reducible first | exact HB.out | apply below_alloc | apply pw_below_drewN | apply below_drew1 | refine below_set ?_ GE367.out | refine below_set ?_ GE368.out | refine below_set ?_ GE369.out | refine below_set ?_ GE371.out) | exact HB.out)⟩
        · rw [if_neg c16] at H
          exact absurd H (by simp)
      · rw [if_neg c13] at H
        exact absurd H (by simp)
    · rw [if_neg c10] at H
      exact absurd H (by simp)
  · replace c7 := Bool.eq_false_iff.mpr c7
    subst c7
    have H1 : (none) = some r := by rw [if_neg (show ¬ (false = true) by decide)] at H; exact H
    clear H
    have H := H1
    clear H1
    exact absurd H (by simp)

/-- THE ONE PURE STATEMENT of wayfinderlaw04_RuleAct: yours. -/
def wayfinderlaw04_RuleAct.Pure : Prop := ∀ (a0_0 : Int) (a0_1 : Int) (a0_2 : Int) (a0_3 : Int) (a0_4 : Int) (a0_5 : Int) (a1_0 : Int) (a1_1 : Int) (a1_2 : Int) (a1_3 : Int) (a1_4 : Int) (a1_5 : Int) (a2_0 : Int) (a2_1 : Int) (a3 : Int) (a4 : Int), (Lit.int .i64 a0_0).wf = true → (Lit.int .i64 a0_1).wf = true → (Lit.int .i64 a0_2).wf = true → (Lit.int .i64 a0_3).wf = true → (Lit.int .i64 a0_4).wf = true → (Lit.int .i64 a0_5).wf = true → (Lit.int .i64 a1_0).wf = true → (Lit.int .i64 a1_1).wf = true → (Lit.int .i64 a1_2).wf = true → (Lit.int .i64 a1_3).wf = true → (Lit.int .i64 a1_4).wf = true → (Lit.int .i64 a1_5).wf = true → (Lit.int .i64 a2_0).wf = true → (Lit.int .i64 a2_1).wf = true → (Lit.int .i64 a3).wf = true → (Lit.int .i64 a4).wf = true → ∃ k, wayfinderlaw04_RuleAct.f k a0_0 a0_1 a0_2 a0_3 a0_4 a0_5 a1_0 a1_1 a1_2 a1_3 a1_4 a1_5 a2_0 a2_1 a3 a4 = some true
theorem wayfinderlaw04_RuleAct.walk (P : wayfinderlaw04_RuleAct.Pure) (a0_0 : Int) (a0_1 : Int) (a0_2 : Int) (a0_3 : Int) (a0_4 : Int) (a0_5 : Int) (a1_0 : Int) (a1_1 : Int) (a1_2 : Int) (a1_3 : Int) (a1_4 : Int) (a1_5 : Int) (a2_0 : Int) (a2_1 : Int) (a3 : Int) (a4 : Int) (w : World) (w0_0 : (Lit.int .i64 a0_0).wf = true) (w0_1 : (Lit.int .i64 a0_1).wf = true) (w0_2 : (Lit.int .i64 a0_2).wf = true) (w0_3 : (Lit.int .i64 a0_3).wf = true) (w0_4 : (Lit.int .i64 a0_4).wf = true) (w0_5 : (Lit.int .i64 a0_5).wf = true) (w1_0 : (Lit.int .i64 a1_0).wf = true) (w1_1 : (Lit.int .i64 a1_1).wf = true) (w1_2 : (Lit.int .i64 a1_2).wf = true) (w1_3 : (Lit.int .i64 a1_3).wf = true) (w1_4 : (Lit.int .i64 a1_4).wf = true) (w1_5 : (Lit.int .i64 a1_5).wf = true) (w2_0 : (Lit.int .i64 a2_0).wf = true) (w2_1 : (Lit.int .i64 a2_1).wf = true) (w3 : (Lit.int .i64 a3).wf = true) (w4 : (Lit.int .i64 a4).wf = true) :
    Calls Try.prog 7 #[.agg #[.int .i64 a0_0, .int .i64 a0_1, .int .i64 a0_2, .int .i64 a0_3, .int .i64 a0_4, .int .i64 a0_5], .agg #[.int .i64 a1_0, .int .i64 a1_1, .int .i64 a1_2, .int .i64 a1_3, .int .i64 a1_4, .int .i64 a1_5], .agg #[.int .i64 a2_0, .int .i64 a2_1], .int .i64 a3, .int .i64 a4] w fun e w' => e = .returned (.bool true) ∧ Below w.heap.size w w' := by
  obtain ⟨k, h⟩ := P a0_0 a0_1 a0_2 a0_3 a0_4 a0_5 a1_0 a1_1 a1_2 a1_3 a1_4 a1_5 a2_0 a2_1 a3 a4 w0_0 w0_1 w0_2 w0_3 w0_4 w0_5 w1_0 w1_1 w1_2 w1_3 w1_4 w1_5 w2_0 w2_1 w3 w4
  refine (wayfinderlaw04_RuleAct.calls k a0_0 a0_1 a0_2 a0_3 a0_4 a0_5 a1_0 a1_1 a1_2 a1_3 a1_4 a1_5 a2_0 a2_1 a3 a4 true w h).mono ?_
  rintro e w' ⟨rfl, hd⟩
  exact ⟨rfl, hd⟩

end Go.Proofs.Ytjnbnjlkljpbeaa.All
