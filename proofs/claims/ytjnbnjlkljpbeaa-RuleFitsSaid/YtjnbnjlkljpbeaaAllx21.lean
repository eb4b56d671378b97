/- Contracts of Go functions that this seat comes to, each with a plain function that tells its answers; conditions: those that each contract names. Written by a program of this session (wip/print) over the print words. -/
import Derived.Test.YtjnbnjlkljpbeaaAllx21T
import Derived.Test.YtjnbnjlkljpbeaaAllx21F
import Derived.Test.YtjnbnjlkljpbeaaAllx0
import Derived.Test.YtjnbnjlkljpbeaaAllx5
import Derived.Test.YtjnbnjlkljpbeaaAllx6
import Derived.Test.YtjnbnjlkljpbeaaAllx20
namespace Go.Proofs.Ytjnbnjlkljpbeaa.All
open Go.RowKit Go.Proofs.YtjnbnjlkljpbeaaW.PrintWords Go.Proofs.YtjnbnjlkljpbeaaW.PrintLast Go.Proofs.YtjnbnjlkljpbeaaW.PrintMore
attribute [local go_sem] max2_int min2_int max_two min_two max_three min_three max_four min_four   -- for this text's walks alone
set_option linter.unusedVariables false
set_option linter.unusedSimpArgs false

set_option maxHeartbeats 8000000 in
set_option maxRecDepth 100000 in
theorem wayfinderlaw04_RuleFits.callsN (k : Nat) (a0_0 : Int) (a0_1 : Int) (a0_2 : Int) (a0_3 : Int) (a0_4 : Int) (a0_5 : Int) (a1_0 : Int) (a1_1 : Int) (a2 : Int) (a3 : Int) (r : Bool) (w : World) (hF_ : rule_Fits.f a0_0 a0_1 a0_2 a0_3 a0_4 a0_5 a2 a3 = none) (h : wayfinderlaw04_RuleFits.f k a0_0 a0_1 a0_2 a0_3 a0_4 a0_5 a1_0 a1_1 a2 a3 = some r) :
    Calls Try.prog 3 #[.agg #[.int .i64 a0_0, .int .i64 a0_1, .int .i64 a0_2, .int .i64 a0_3, .int .i64 a0_4, .int .i64 a0_5], .agg #[.int .i64 a1_0, .int .i64 a1_1], .int .i64 a2, .int .i64 a3] w fun e w' => e = .returned (.bool r) ∧ Below w.heap.size w w' := by
  have hu27 := Try.underlying27
  have hu23 := Try.underlying23
  have HB := Aside0.mk (Below.refl w.heap.size w)
  have H : ((wayfinderlaw04_awake.f k).bind fun t342 => (if t342 = true then ((rule_May.f a0_0 a0_1 a0_2 a0_3 a0_4 a0_5).bind fun t343 => (if t343 = true then ((bits_May.f a1_0 a1_1).bind fun t344 => (wayfinderlaw04_RuleFits.j0 k a2 a3 t342 (!t344) a0_0 a0_1 a0_2 a0_3 a0_4 a0_5 a1_0 a1_1)) else (wayfinderlaw04_RuleFits.j0 k a2 a3 t342 true a0_0 a0_1 a0_2 a0_3 a0_4 a0_5 a1_0 a1_1))) else (wayfinderlaw04_RuleFits.j0 k a2 a3 t342 true a0_0 a0_1 a0_2 a0_3 a0_4 a0_5 a1_0 a1_1))) = some r := h
  clear h
  replace H := Option.bind_eq_some_iff.mp H
  obtain ⟨t342, A50, H⟩ := H
  replace H : (if t342 = true then ((rule_May.f a0_0 a0_1 a0_2 a0_3 a0_4 a0_5).bind fun t343 => (if t343 = true then ((bits_May.f a1_0 a1_1).bind fun t344 => (wayfinderlaw04_RuleFits.j0 k a2 a3 t342 (!t344) a0_0 a0_1 a0_2 a0_3 a0_4 a0_5 a1_0 a1_1)) else (wayfinderlaw04_RuleFits.j0 k a2 a3 t342 true a0_0 a0_1 a0_2 a0_3 a0_4 a0_5 a1_0 a1_1))) else (wayfinderlaw04_RuleFits.j0 k a2 a3 t342 true a0_0 a0_1 a0_2 a0_3 a0_4 a0_5 a1_0 a1_1)) = some r := H
  have A5 := Aside0.mk A50
  clear A50
  have HC6 := Aside0.mk H
  clear H
  go_enter Try.func3, Try.ntmps3
  go_upto_region 2 with (first | ((with_reducible refine gate_dst (N := 4) rfl ?_); refine box_event ?hg (N := 4) ?hd (cs := #[.int .i64 a0_0, .int .i64 a0_1, .int .i64 a0_2, .int .i64 a0_3, .int .i64 a0_4, .int .i64 a0_5]) (t := 27) ?hr ?_; (case hd => rfl); (case hg => rfl); (case hr => first | (go_simp; done) | (go_simp; rfl)); intro gb340 hg w7 hbox hb; have n0_ := Aside0.mk (below_step (by repeat (first | (with_reducible first | exact HB.out | apply below_alloc | apply pw_below_drewN | apply below_drew1) | exact HB.out)) hb); have n1_ := Aside0.mk (hbox); have n2_ := Aside0.mk ((by rw [hg]; exact (below_size (by repeat (first | (with_reducible first | exact HB.out | apply below_alloc | apply pw_below_drewN | apply below_drew1) | exact HB.out))) : w.heap.size ≤ gb340)); have n3_ := Aside0.mk ((by rw [hg]; exact (below_size (by repeat (first | (with_reducible first | exact HB.out | apply below_alloc | apply pw_below_drewN | apply below_drew1) | exact HB.out))) : w.heap.size ≤ gb340)); clear HB; have HB := n0_; have BK340 := n1_; have GW340 := n2_; have GE340 := n3_; clear n0_ n1_ n2_ n3_; clear hb hbox hg) | ((with_reducible refine gate_dst (N := 5) rfl ?_); refine box_event ?hg (N := 5) ?hd (cs := #[.int .i64 a1_0, .int .i64 a1_1]) (t := 23) ?hr ?_; (case hd => rfl); (case hg => rfl); (case hr => first | (go_simp; done) | (go_simp; rfl)); intro gb341 hg w8 hbox hb; have n0_ := Aside0.mk (blk_below (g := gb340) (o := .cells #[.int .i64 a0_0, .int .i64 a0_1, .int .i64 a0_2, .int .i64 a0_3, .int .i64 a0_4, .int .i64 a0_5] 27 (0, 0)) (by (with_reducible repeat (first | refine blk_drewN ?_ _ | refine blk_drew ?_ | refine blk_alloc ?_ _)); exact BK340.out) hb); have n1_ := Aside0.mk (below_step (by repeat (first | (with_reducible first | exact HB.out | apply below_alloc | apply pw_below_drewN | apply below_drew1 | refine below_set ?_ GE340.out) | exact HB.out)) hb); have n2_ := Aside0.mk (hbox); have n3_ := Aside0.mk ((by rw [hg]; exact (below_size (by repeat (first | (with_reducible first | exact HB.out | apply below_alloc | apply pw_below_drewN | apply below_drew1 | refine below_set ?_ GE340.out) | exact HB.out))) : w.heap.size ≤ gb341)); have n4_ := Aside0.mk ((by rw [hg]; exact (below_size (by repeat (first | (with_reducible first | exact HB.out | apply below_alloc | apply pw_below_drewN | apply below_drew1 | refine below_set ?_ GE340.out) | exact HB.out))) : w.heap.size ≤ gb341)); have n5_ := Aside0.mk ((by rw [hg]; exact Nat.ne_of_lt (blk_lt (g := gb340) (o := .cells #[.int .i64 a0_0, .int .i64 a0_1, .int .i64 a0_2, .int .i64 a0_3, .int .i64 a0_4, .int .i64 a0_5] 27 (0, 0)) (by (with_reducible repeat (first | refine blk_drewN ?_ _ | refine blk_drew ?_ | refine blk_alloc ?_ _)); exact BK340.out)) : gb340 ≠ gb341)); have n6_ := Aside0.mk ((by rw [hg]; exact Nat.ne_of_gt (blk_lt (g := gb340) (o := .cells #[.int .i64 a0_0, .int .i64 a0_1, .int .i64 a0_2, .int .i64 a0_3, .int .i64 a0_4, .int .i64 a0_5] 27 (0, 0)) (by (with_reducible repeat (first | refine blk_drewN ?_ _ | refine blk_drew ?_ | refine blk_alloc ?_ _)); exact BK340.out)) : gb341 ≠ gb340)); clear BK340; clear HB; have BK340 := n0_; have HB := n1_; have BK341 := n2_; have GW341 := n3_; have GE341 := n4_; have NB340_341 := n5_; have NB341_340 := n6_; clear n0_ n1_ n2_ n3_ n4_ n5_ n6_; clear hb hbox hg) | ((with_reducible refine gate_callee (f := 11) rfl ?_); refine goesL_ (some 12) rfl rfl Try.func11 (by kernel_rfl) rfl #[] rfl (by (try simp only [List.map_toArray, List.map_cons, List.map_nil]); first | done | rfl | (simp only [List.length_drop, List.length_take]; rfl)) ?_; (with_reducible refine (wayfinderlaw04_awake.calls k  t342 _ A5.out).mono ?_); rintro e w9 ⟨rfl, hb⟩; refine ⟨_, rfl, ?_⟩; have n0_ := Aside0.mk (blk_below (g := gb340) (o := .cells #[.int .i64 a0_0, .int .i64 a0_1, .int .i64 a0_2, .int .i64 a0_3, .int .i64 a0_4, .int .i64 a0_5] 27 (0, 0)) (by (with_reducible repeat (first | refine blk_drewN ?_ _ | refine blk_drew ?_ | refine blk_alloc ?_ _)); exact BK340.out) hb); have n1_ := Aside0.mk (blk_below (g := gb341) (o := .cells #[.int .i64 a1_0, .int .i64 a1_1] 23 (0, 0)) (by (with_reducible repeat (first | refine blk_drewN ?_ _ | refine blk_drew ?_ | refine blk_alloc ?_ _)); exact BK341.out) hb); have n2_ := Aside0.mk (below_step (by repeat (first | (with_reducible first | exact HB.out | apply below_alloc | apply pw_below_drewN | apply below_drew1 | refine below_set ?_ GE340.out | refine below_set ?_ GE341.out) | exact HB.out)) hb); clear BK340; clear BK341; clear HB; have BK340 := n0_; have BK341 := n1_; have HB := n2_; clear n0_ n1_ n2_; (try clear hb); (try clear hb2); (try clear hk); (try clear hi)))
  (try simp only [Act.put, List.setIfInBounds_toArray, List.set_cons_zero, List.set_cons_succ])
  go_cut [24] (fun v24 wc => ∃ (kq : Nat) (x24_5 : Bool), v24 = .bool x24_5 ∧ Aside0 (wayfinderlaw04_RuleFits.j0 kq a2 a3 t342 x24_5 a0_0 a0_1 a0_2 a0_3 a0_4 a0_5 a1_0 a1_1 = some r) ∧ Aside0 (kq ≤ k) ∧ Aside0 (wc.heap[gb340]? = some (.cells #[.int .i64 a0_0, .int .i64 a0_1, .int .i64 a0_2, .int .i64 a0_3, .int .i64 a0_4, .int .i64 a0_5] 27 (0, 0))) ∧ Aside0 (wc.heap[gb341]? = some (.cells #[.int .i64 a1_0, .int .i64 a1_1] 23 (0, 0))) ∧ Aside0 (Below w.heap.size w wc))
  case first =>
    have H := HC6.out
    clear HC6
    by_cases c10 : t342 = true
    · subst c10
      have H1 : ((rule_May.f a0_0 a0_1 a0_2 a0_3 a0_4 a0_5).bind fun t343 => (if t343 = true then ((bits_May.f a1_0 a1_1).bind fun t344 => (wayfinderlaw04_RuleFits.j0 k a2 a3 true (!t344) a0_0 a0_1 a0_2 a0_3 a0_4 a0_5 a1_0 a1_1)) else (wayfinderlaw04_RuleFits.j0 k a2 a3 true true a0_0 a0_1 a0_2 a0_3 a0_4 a0_5 a1_0 a1_1))) = some r := by rw [if_pos rfl] at H; exact H
      clear H
      have H := H1
      clear H1
      replace H := Option.bind_eq_some_iff.mp H
      obtain ⟨t343, A110, H⟩ := H
      replace H : (if t343 = true then ((bits_May.f a1_0 a1_1).bind fun t344 => (wayfinderlaw04_RuleFits.j0 k a2 a3 true (!t344) a0_0 a0_1 a0_2 a0_3 a0_4 a0_5 a1_0 a1_1)) else (wayfinderlaw04_RuleFits.j0 k a2 a3 true true a0_0 a0_1 a0_2 a0_3 a0_4 a0_5 a1_0 a1_1)) = some r := H
      have A11 := Aside0.mk A110
      clear A110
      by_cases c12 : t343 = true
      · subst c12
        have H1 : ((bits_May.f a1_0 a1_1).bind fun t344 => (wayfinderlaw04_RuleFits.j0 k a2 a3 true (!t344) a0_0 a0_1 a0_2 a0_3 a0_4 a0_5 a1_0 a1_1)) = some r := by rw [if_pos rfl] at H; exact H
        clear H
        have H := H1
        clear H1
        replace H := Option.bind_eq_some_iff.mp H
        obtain ⟨t344, A130, H⟩ := H
        replace H : (wayfinderlaw04_RuleFits.j0 k a2 a3 true (!t344) a0_0 a0_1 a0_2 a0_3 a0_4 a0_5 a1_0 a1_1) = some r := H
        have A13 := Aside0.mk A130
        clear A130
        have H' := Aside0.mk H
        clear H
        have hnb14 := NB340_341.out
        have hnc14 := NB341_340.out
        obtain ⟨hcz15_0, hcz15_1, hcz15_2, hcz15_3, hcz15_4, hcz15_5⟩ := wayfinderlaw04_RuleFits.cells6 BK340.out
        obtain ⟨hfz15_0, hfz15_1, hfz15_2, hfz15_3, hfz15_4, hfz15_5⟩ := wayfinderlaw04_RuleFits.frozen6 BK340.out
        go_wp2_with (first | (go_at_call 12; (with_reducible refine (rule_May.calls a0_0 a0_1 a0_2 a0_3 a0_4 a0_5 true _ A11.out).mono ?_); rintro e w16 ⟨rfl, hb⟩; have n0_ := Aside0.mk (blk_below (g := gb340) (o := .cells #[.int .i64 a0_0, .int .i64 a0_1, .int .i64 a0_2, .int .i64 a0_3, .int .i64 a0_4, .int .i64 a0_5] 27 (0, 0)) (by (with_reducible repeat (first | refine blk_drewN ?_ _ | refine blk_drew ?_ | refine blk_alloc ?_ _)); exact BK340.out) hb); have n1_ := Aside0.mk (blk_below (g := gb341) (o := .cells #[.int .i64 a1_0, .int .i64 a1_1] 23 (0, 0)) (by (with_reducible repeat (first | refine blk_drewN ?_ _ | refine blk_drew ?_ | refine blk_alloc ?_ _)); exact BK341.out) hb); have n2_ := Aside0.mk (below_step (by repeat (first | (with_reducible first | exact HB.out | apply below_alloc | apply pw_below_drewN | apply below_drew1 | refine below_set ?_ GE340.out | refine below_set ?_ GE341.out) | exact HB.out)) hb); clear BK340; clear BK341; clear HB; have BK340 := n0_; have BK341 := n1_; have HB := n2_; clear n0_ n1_ n2_; (try clear hb); (try clear hb2); (try clear hk); (try clear hi); obtain ⟨hcz17_0, hcz17_1⟩ := wayfinderlaw04_RuleFits.cells2 BK341.out; obtain ⟨hfz17_0, hfz17_1⟩ := wayfinderlaw04_RuleFits.frozen2 BK341.out) | (go_at_call 13; (with_reducible refine (bits_May.calls a1_0 a1_1 t344 _ A13.out).mono ?_); rintro e w18 ⟨rfl, hb⟩; have n0_ := Aside0.mk (blk_below (g := gb340) (o := .cells #[.int .i64 a0_0, .int .i64 a0_1, .int .i64 a0_2, .int .i64 a0_3, .int .i64 a0_4, .int .i64 a0_5] 27 (0, 0)) (by (with_reducible repeat (first | refine blk_drewN ?_ _ | refine blk_drew ?_ | refine blk_alloc ?_ _)); exact BK340.out) hb); have n1_ := Aside0.mk (blk_below (g := gb341) (o := .cells #[.int .i64 a1_0, .int .i64 a1_1] 23 (0, 0)) (by (with_reducible repeat (first | refine blk_drewN ?_ _ | refine blk_drew ?_ | refine blk_alloc ?_ _)); exact BK341.out) hb); have n2_ := Aside0.mk (below_step (by repeat (first | (with_reducible first | exact HB.out | apply below_alloc | apply pw_below_drewN | apply below_drew1 | refine below_set ?_ GE340.out | refine below_set ?_ GE341.out) | exact HB.out)) hb); clear BK340; clear BK341; clear HB; have BK340 := n0_; have BK341 := n1_; have HB := n2_; clear n0_ n1_ n2_; (try clear hb); (try clear hb2); (try clear hk); (try clear hi)))
        go_meet
        case rel => exact ⟨_, (!t344), (by first | rfl | (simp; done) | (simp [*]; done)), H', ⟨by first | omega | exact Nat.le_refl _⟩, ⟨by (with_reducible repeat (first | refine blk_drewN ?_ _ | refine blk_drew ?_ | refine blk_alloc ?_ _)); exact BK340.out⟩, ⟨by (with_reducible repeat (first | refine blk_drewN ?_ _ | refine blk_drew ?_ | refine blk_alloc ?_ _)); exact BK341.out⟩, ⟨by repeat (first | (with_reducible first | exact HB.out | apply below_alloc | apply pw_below_drewN | apply below_drew1 | refine below_set ?_ GE340.out | refine below_set ?_ GE341.out) | exact HB.out)⟩⟩
      · replace c12 := Bool.eq_false_iff.mpr c12
        subst c12
        have H1 : (wayfinderlaw04_RuleFits.j0 k a2 a3 true true a0_0 a0_1 a0_2 a0_3 a0_4 a0_5 a1_0 a1_1) = some r := by rw [if_neg (show ¬ (false = true) by decide)] at H; exact H
        clear H
        have H := H1
        clear H1
        have H' := Aside0.mk H
        clear H
        have hnb19 := NB340_341.out
        have hnc19 := NB341_340.out
        obtain ⟨hcz20_0, hcz20_1, hcz20_2, hcz20_3, hcz20_4, hcz20_5⟩ := wayfinderlaw04_RuleFits.cells6 BK340.out
        obtain ⟨hfz20_0, hfz20_1, hfz20_2, hfz20_3, hfz20_4, hfz20_5⟩ := wayfinderlaw04_RuleFits.frozen6 BK340.out
        go_wp2_with (first | (go_at_call 12; (with_reducible refine (rule_May.calls a0_0 a0_1 a0_2 a0_3 a0_4 a0_5 false _ A11.out).mono ?_); rintro e w21 ⟨rfl, hb⟩; have n0_ := Aside0.mk (blk_below (g := gb340) (o := .cells #[.int .i64 a0_0, .int .i64 a0_1, .int .i64 a0_2, .int .i64 a0_3, .int .i64 a0_4, .int .i64 a0_5] 27 (0, 0)) (by (with_reducible repeat (first | refine blk_drewN ?_ _ | refine blk_drew ?_ | refine blk_alloc ?_ _)); exact BK340.out) hb); have n1_ := Aside0.mk (blk_below (g := gb341) (o := .cells #[.int .i64 a1_0, .int .i64 a1_1] 23 (0, 0)) (by (with_reducible repeat (first | refine blk_drewN ?_ _ | refine blk_drew ?_ | refine blk_alloc ?_ _)); exact BK341.out) hb); have n2_ := Aside0.mk (below_step (by repeat (first | (with_reducible first | exact HB.out | apply below_alloc | apply pw_below_drewN | apply below_drew1 | refine below_set ?_ GE340.out | refine below_set ?_ GE341.out) | exact HB.out)) hb); clear BK340; clear BK341; clear HB; have BK340 := n0_; have BK341 := n1_; have HB := n2_; clear n0_ n1_ n2_; (try clear hb); (try clear hb2); (try clear hk); (try clear hi)))
        go_meet
        case rel => exact ⟨_, (true), (by first | rfl | (simp; done) | (simp [*]; done)), H', ⟨by first | omega | exact Nat.le_refl _⟩, ⟨by (with_reducible repeat (first | refine blk_drewN ?_ _ | refine blk_drew ?_ | refine blk_alloc ?_ _)); exact BK340.out⟩, ⟨by (with_reducible repeat (first | refine blk_drewN ?_ _ | refine blk_drew ?_ | refine blk_alloc ?_ _)); exact BK341.out⟩, ⟨by repeat (first | (with_reducible first | exact HB.out | apply below_alloc | apply pw_below_drewN | apply below_drew1 | refine below_set ?_ GE340.out | refine below_set ?_ GE341.out) | exact HB.out)⟩⟩
    · replace c10 := Bool.eq_false_iff.mpr c10
      subst c10
      have H1 : (wayfinderlaw04_RuleFits.j0 k a2 a3 false true a0_0 a0_1 a0_2 a0_3 a0_4 a0_5 a1_0 a1_1) = some r := by rw [if_neg (show ¬ (false = true) by decide)] at H; exact H
      clear H
      have H := H1
      clear H1
      have H' := Aside0.mk H
      clear H
      go_wp2
      go_meet
      case rel => exact ⟨_, (true), (by first | rfl | (simp; done) | (simp [*]; done)), H', ⟨by first | omega | exact Nat.le_refl _⟩, ⟨by (with_reducible repeat (first | refine blk_drewN ?_ _ | refine blk_drew ?_ | refine blk_alloc ?_ _)); exact BK340.out⟩, ⟨by (with_reducible repeat (first | refine blk_drewN ?_ _ | refine blk_drew ?_ | refine blk_alloc ?_ _)); exact BK341.out⟩, ⟨by repeat (first | (with_reducible first | exact HB.out | apply below_alloc | apply pw_below_drewN | apply below_drew1 | refine below_set ?_ GE340.out | refine below_set ?_ GE341.out) | exact HB.out)⟩⟩
  case rest =>
    clear HC6
    try clear c1
    try clear p2
    try clear c3
    try clear c10
    try clear c11
    try clear c12
    try clear c14
    try clear c19
    try clear hcz15_0
    try clear hcz15_1
    try clear hcz15_2
    try clear hcz15_3
    try clear hcz15_4
    try clear hcz15_5
    try clear hcz17_0
    try clear hcz17_1
    try clear hcz20_0
    try clear hcz20_1
    try clear hcz20_2
    try clear hcz20_3
    try clear hcz20_4
    try clear hcz20_5
    try clear hfz15_0
    try clear hfz15_1
    try clear hfz15_2
    try clear hfz15_3
    try clear hfz15_4
    try clear hfz15_5
    try clear hfz17_0
    try clear hfz17_1
    try clear hfz20_0
    try clear hfz20_1
    try clear hfz20_2
    try clear hfz20_3
    try clear hfz20_4
    try clear hfz20_5
    obtain ⟨kq, x24_5, rfl, HA, HJ5, BK340, BK341, HB⟩ := hcut
    cases kq with
    | zero => exact absurd HA.out (by simp [wayfinderlaw04_RuleFits.j0])
    | succ kj5 =>
      have H := HA.out
      clear HA
      simp only [wayfinderlaw04_RuleFits.j0] at H
      by_cases c22 : x24_5 = true
      · subst c22
        have H1 : (some t342) = some r := by rw [if_pos rfl] at H; exact H
        clear H
        have H := H1
        clear H1
        obtain rfl := Option.some.inj H
        go_wp2
        go_ret
        exact ⟨by first | rfl | (simp [errW_none, errW_some] <;> rfl) | (simp [*, errW_none, errW_some] <;> rfl), by repeat (first | (with_reducible first | exact HB.out | apply below_alloc | apply pw_below_drewN | apply below_drew1 | refine below_set ?_ GE340.out | refine below_set ?_ GE341.out) | exact HB.out)⟩
      · replace c22 := Bool.eq_false_iff.mpr c22
        subst c22
        have H1 : ((rule_Fits.f a0_0 a0_1 a0_2 a0_3 a0_4 a0_5 a2 a3).bind fun t347 => (if t347 = true then ((rule_Fits.f a0_0 a0_1 (-1) a0_3 a0_4 a0_5 a2 a3).bind fun t348 => (if t348 = true then ((bits_Within.f a1_0 a1_1 a0_0 a0_1).bind fun t349 => (if t349 = true then ((rule_Fits.f a0_0 a0_1 a0_2 a0_3 a0_4 a0_5 a2 a3).bind fun t350 => (if t350 = true then ((rule_Fits.f a1_0 a1_1 a0_2 a0_3 a0_4 a0_5 a2 a3).bind fun t351 => (if t351 = true then ((rule_Fits.f a0_0 a0_1 (-1) a0_3 a0_4 a0_5 a2 a3).bind fun t352 => ((bits_Has.f a0_0 a0_1 a3).bind fun t353 => (some (t352 == t353)))) else (none))) else (none))) else ((rule_Fits.f a0_0 a0_1 (-1) a0_3 a0_4 a0_5 a2 a3).bind fun t356 => ((bits_Has.f a0_0 a0_1 a3).bind fun t357 => (some (t356 == t357)))))) else (none))) else ((bits_Within.f a1_0 a1_1 a0_0 a0_1).bind fun t358 => (if t358 = true then ((rule_Fits.f a0_0 a0_1 a0_2 a0_3 a0_4 a0_5 a2 a3).bind fun t359 => (if t359 = true then (none) else ((rule_Fits.f a0_0 a0_1 (-1) a0_3 a0_4 a0_5 a2 a3).bind fun t363 => ((bits_Has.f a0_0 a0_1 a3).bind fun t364 => (some (t363 == t364)))))) else ((rule_Fits.f a0_0 a0_1 (-1) a0_3 a0_4 a0_5 a2 a3).bind fun t365 => ((bits_Has.f a0_0 a0_1 a3).bind fun t366 => (some (t365 == t366)))))))) = some r := by rw [if_neg (show ¬ (false = true) by decide)] at H; exact H
        clear H
        have H := H1
        clear H1
        replace H := Option.bind_eq_some_iff.mp H
        obtain ⟨t347, A230, H⟩ := H
        replace H : (if t347 = true then ((rule_Fits.f a0_0 a0_1 (-1) a0_3 a0_4 a0_5 a2 a3).bind fun t348 => (if t348 = true then ((bits_Within.f a1_0 a1_1 a0_0 a0_1).bind fun t349 => (if t349 = true then ((rule_Fits.f a0_0 a0_1 a0_2 a0_3 a0_4 a0_5 a2 a3).bind fun t350 => (if t350 = true then ((rule_Fits.f a1_0 a1_1 a0_2 a0_3 a0_4 a0_5 a2 a3).bind fun t351 => (if t351 = true then ((rule_Fits.f a0_0 a0_1 (-1) a0_3 a0_4 a0_5 a2 a3).bind fun t352 => ((bits_Has.f a0_0 a0_1 a3).bind fun t353 => (some (t352 == t353)))) else (none))) else (none))) else ((rule_Fits.f a0_0 a0_1 (-1) a0_3 a0_4 a0_5 a2 a3).bind fun t356 => ((bits_Has.f a0_0 a0_1 a3).bind fun t357 => (some (t356 == t357)))))) else (none))) else ((bits_Within.f a1_0 a1_1 a0_0 a0_1).bind fun t358 => (if t358 = true then ((rule_Fits.f a0_0 a0_1 a0_2 a0_3 a0_4 a0_5 a2 a3).bind fun t359 => (if t359 = true then (none) else ((rule_Fits.f a0_0 a0_1 (-1) a0_3 a0_4 a0_5 a2 a3).bind fun t363 => ((bits_Has.f a0_0 a0_1 a3).bind fun t364 => (some (t363 == t364)))))) else ((rule_Fits.f a0_0 a0_1 (-1) a0_3 a0_4 a0_5 a2 a3).bind fun t365 => ((bits_Has.f a0_0 a0_1 a3).bind fun t366 => (some (t365 == t366))))))) = some r := H
        have A23 := Aside0.mk A230
        clear A230
        by_cases c24 : t347 = true
        · subst c24
          exact absurd (hF_.symm.trans A23.out) (by decide)
        · replace c24 := Bool.eq_false_iff.mpr c24
          subst c24
          exact absurd (hF_.symm.trans A23.out) (by decide)
theorem wayfinderlaw04_RuleFits.calls (k : Nat) (a0_0 : Int) (a0_1 : Int) (a0_2 : Int) (a0_3 : Int) (a0_4 : Int) (a0_5 : Int) (a1_0 : Int) (a1_1 : Int) (a2 : Int) (a3 : Int) (r : Bool) (w : World) (h : wayfinderlaw04_RuleFits.f k a0_0 a0_1 a0_2 a0_3 a0_4 a0_5 a1_0 a1_1 a2 a3 = some r) :
    Calls Try.prog 3 #[.agg #[.int .i64 a0_0, .int .i64 a0_1, .int .i64 a0_2, .int .i64 a0_3, .int .i64 a0_4, .int .i64 a0_5], .agg #[.int .i64 a1_0, .int .i64 a1_1], .int .i64 a2, .int .i64 a3] w fun e w' => e = .returned (.bool r) ∧ Below w.heap.size w w' := by
  rcases hF_ : rule_Fits.f a0_0 a0_1 a0_2 a0_3 a0_4 a0_5 a2 a3 with _ | b
  · exact wayfinderlaw04_RuleFits.callsN k a0_0 a0_1 a0_2 a0_3 a0_4 a0_5 a1_0 a1_1 a2 a3 r w hF_ h
  · cases b
    · exact wayfinderlaw04_RuleFits.callsF k a0_0 a0_1 a0_2 a0_3 a0_4 a0_5 a1_0 a1_1 a2 a3 r w hF_ h
    · exact wayfinderlaw04_RuleFits.callsT k a0_0 a0_1 a0_2 a0_3 a0_4 a0_5 a1_0 a1_1 a2 a3 r w hF_ h
/-- THE ONE PURE STATEMENT of wayfinderlaw04_RuleFits: yours. -/
def wayfinderlaw04_RuleFits.Pure : Prop := ∀ (a0_0 : Int) (a0_1 : Int) (a0_2 : Int) (a0_3 : Int) (a0_4 : Int) (a0_5 : Int) (a1_0 : Int) (a1_1 : Int) (a2 : Int) (a3 : Int), (Lit.int .i64 a0_0).wf = true → (Lit.int .i64 a0_1).wf = true → (Lit.int .i64 a0_2).wf = true → (Lit.int .i64 a0_3).wf = true → (Lit.int .i64 a0_4).wf = true → (Lit.int .i64 a0_5).wf = true → (Lit.int .i64 a1_0).wf = true → (Lit.int .i64 a1_1).wf = true → (Lit.int .i64 a2).wf = true → (Lit.int .i64 a3).wf = true → ∃ k, wayfinderlaw04_RuleFits.f k a0_0 a0_1 a0_2 a0_3 a0_4 a0_5 a1_0 a1_1 a2 a3 = some true
theorem wayfinderlaw04_RuleFits.walk (P : wayfinderlaw04_RuleFits.Pure) (a0_0 : Int) (a0_1 : Int) (a0_2 : Int) (a0_3 : Int) (a0_4 : Int) (a0_5 : Int) (a1_0 : Int) (a1_1 : Int) (a2 : Int) (a3 : Int) (w : World) (w0_0 : (Lit.int .i64 a0_0).wf = true) (w0_1 : (Lit.int .i64 a0_1).wf = true) (w0_2 : (Lit.int .i64 a0_2).wf = true) (w0_3 : (Lit.int .i64 a0_3).wf = true) (w0_4 : (Lit.int .i64 a0_4).wf = true) (w0_5 : (Lit.int .i64 a0_5).wf = true) (w1_0 : (Lit.int .i64 a1_0).wf = true) (w1_1 : (Lit.int .i64 a1_1).wf = true) (w2 : (Lit.int .i64 a2).wf = true) (w3 : (Lit.int .i64 a3).wf = true) :
    Calls Try.prog 3 #[.agg #[.int .i64 a0_0, .int .i64 a0_1, .int .i64 a0_2, .int .i64 a0_3, .int .i64 a0_4, .int .i64 a0_5], .agg #[.int .i64 a1_0, .int .i64 a1_1], .int .i64 a2, .int .i64 a3] w fun e w' => e = .returned (.bool true) ∧ Below w.heap.size w w' := by
  obtain ⟨k, h⟩ := P a0_0 a0_1 a0_2 a0_3 a0_4 a0_5 a1_0 a1_1 a2 a3 w0_0 w0_1 w0_2 w0_3 w0_4 w0_5 w1_0 w1_1 w2 w3
  refine (wayfinderlaw04_RuleFits.calls k a0_0 a0_1 a0_2 a0_3 a0_4 a0_5 a1_0 a1_1 a2 a3 true w h).mono ?_
  rintro e w' ⟨rfl, hd⟩
  exact ⟨rfl, hd⟩

end Go.Proofs.Ytjnbnjlkljpbeaa.All
