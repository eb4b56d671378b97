/- Contracts of Go functions that this seat comes to, each with a plain function that tells its answers; conditions: those that each contract names. Written by a program of this session (wip/print) over the print words. -/
import Derived.Test.YtkidokbeabmpmaaDoorAllx0
import Derived.Test.YtkidokbeabmpmaaDoorAllx8
import Derived.Test.YtkidokbeabmpmaaDoorAllx9
import Derived.Test.YtkidokbeabmpmaaDoorAllx12
namespace Go.Proofs.YtkidokbeabmpmaaDoor.All
open Go.RowKit Go.Proofs.YtkidokbeabmpmaaDoorW.PrintWords Go.Proofs.YtkidokbeabmpmaaDoorW.PrintLast Go.Proofs.YtkidokbeabmpmaaDoorW.PrintMore
attribute [local go_sem] max2_int min2_int max_two min_two max_three min_three max_four min_four   -- for this text's walks alone
set_option linter.unusedVariables false
set_option linter.unusedSimpArgs false

/-! ### wayfinderref03_Get: function 14 -/
def wayfinderref03_Get.f (k : Nat) (l0 : List Int) : Option (Int × Int × Int × Int × Int × Int) := if (l0.length : Int) < 18 then (some (0, 0, 0, 0, 0, 3)) else (if (l0.length : Int) > 18 then (some (0, 0, 0, 0, 0, 2)) else ((wayfinderref02_Sum.f k l0).bind fun t312 => (if t312 = 0 then ((wayfinderref02_GetAll.f k l0 (([4, 4, 4, 2, 2] : List Int))).bind fun bt316 => (if 0 < (bt316.1.length : Int) then (if 1 < (bt316.1.length : Int) then (if 2 < (bt316.1.length : Int) then (if 3 < (bt316.1.length : Int) then (if 4 < (bt316.1.length : Int) then ((wayfinderref03_May.f (rd bt316.1 0) (rd bt316.1 1) (rd bt316.1 2) (rd bt316.1 3) (rd bt316.1 4)).bind fun t327 => (if t327 = true then (some (rd bt316.1 0, rd bt316.1 1, rd bt316.1 2, rd bt316.1 3, rd bt316.1 4, 0)) else (some (0, 0, 0, 0, 0, 2)))) else (none)) else (none)) else (none)) else (none)) else (none))) else (some (0, 0, 0, 0, 0, 4)))))
theorem wayfinderref03_Get.mono : ∀ a0 k, LeO (wayfinderref03_Get.f k a0) (wayfinderref03_Get.f (k + 1) a0) := by
  intro a0 k
  unfold wayfinderref03_Get.f
  repeat' first
      | (with_reducible exact wayfinderref02_GetAll.mono _ _ _)
      | (with_reducible exact wayfinderref02_Sum.mono _ _)
      | (with_reducible exact LeO.refl _)
      | (with_reducible exact LeO.none _)
      | (with_reducible refine LeO.ite ?_ ?_)
      | (with_reducible refine LeO.bind ?_ (fun _ => ?_))
      | exact wayfinderref02_GetAll.mono _ _ _
      | exact wayfinderref02_Sum.mono _ _
      | exact LeO.none _
      | refine LeO.ite ?_ ?_
      | refine LeO.bind ?_ (fun _ => ?_)
def wayfinderref03_Get.T9 : Bool × List (List Nat × List Nat) := (true, [([], []), ([0], [0]), ([1], [1]), ([], []), ([3], [3]), ([4], [4]), ([], []), ([6], [6]), ([7], [7]), ([], []), ([9], [9]), ([10], [10]), ([], []), ([12], [12]), ([13], [13]), ([2, 5, 8, 11, 14], [2, 5, 8, 11, 14]), ([], []), ([16, 15, 0, 1, 2, 3, 4, 5, 6, 7, 8, 9, 10, 11, 12, 13, 14, 15, 16], [15, 16])])
def wayfinderref03_Get.B9 : List Nat := [0, 1, 3, 0, 8, 24, 0, 64, 192, 0, 512, 1536, 0, 4096, 12288, 32767, 0, 131071]
theorem wayfinderref03_Get.tab9 : rtab .any (opsOf Tryd.f14 9) = wayfinderref03_Get.T9 := by kernel_rfl
theorem wayfinderref03_Get.bits9 : waitsOk wayfinderref03_Get.T9.2 wayfinderref03_Get.B9 = true := by kernel_rfl
set_option maxHeartbeats 8000000 in
set_option maxRecDepth 100000 in
theorem wayfinderref03_Get.calls (k : Nat) (A0 : Option Addr) (c0 : Nat) (l0 : List Int) (r1 : Int) (r2 : Int) (r3 : Int) (r4 : Int) (r5 : Int) (r6 : Int) (w : World) (hr0 : Kd.C (Kd.int .u8) w A0 l0.length l0) (hc0 : l0.length ≤ c0) (h : wayfinderref03_Get.f k l0 = some (r1, r2, r3, r4, r5, r6)) :
    Calls Tryd.prog 14 #[.slice A0 l0.length c0] w fun e w' => e = .returned (.tuple #[.agg #[.int .i64 r1, .int .i64 r2, .int .i64 r3, .int .i64 r4, .int .i64 r5], .int .i64 r6]) ∧ Below w.heap.size w w' := by
  have hu23 := Tryd.underlying23
  have HR0 := Aside0.mk hr0
  have HC0 := Aside0.mk hc0
  clear hr0 hc0
  have HB := Aside0.mk (Below.refl w.heap.size w)
  have H : (if (l0.length : Int) < 18 then (some (0, 0, 0, 0, 0, 3)) else (if (l0.length : Int) > 18 then (some (0, 0, 0, 0, 0, 2)) else ((wayfinderref02_Sum.f k l0).bind fun t312 => (if t312 = 0 then ((wayfinderref02_GetAll.f k l0 (([4, 4, 4, 2, 2] : List Int))).bind fun bt316 => (if 0 < (bt316.1.length : Int) then (if 1 < (bt316.1.length : Int) then (if 2 < (bt316.1.length : Int) then (if 3 < (bt316.1.length : Int) then (if 4 < (bt316.1.length : Int) then ((wayfinderref03_May.f (rd bt316.1 0) (rd bt316.1 1) (rd bt316.1 2) (rd bt316.1 3) (rd bt316.1 4)).bind fun t327 => (if t327 = true then (some (rd bt316.1 0, rd bt316.1 1, rd bt316.1 2, rd bt316.1 3, rd bt316.1 4, 0)) else (some (0, 0, 0, 0, 0, 2)))) else (none)) else (none)) else (none)) else (none)) else (none))) else (some (0, 0, 0, 0, 0, 4)))))) = some (r1, r2, r3, r4, r5, r6) := h
  clear h
  by_cases c2 : (l0.length : Int) < 18
  · rw [if_pos c2] at H
    have c2b0 : decide ((l0.length : Int) < 18) = true := decide_eq_true c2
    have c2b1 : decide (l0.length < 18) = true := decide_eq_true (by omega)
    clear c2
    simp only [Option.some.injEq, Prod.mk.injEq] at H
    obtain ⟨rfl, rfl, rfl, rfl, rfl, rfl⟩ := H
    go_enter Tryd.func14, Tryd.ntmps14
    go_wp2_with (first | ((with_reducible refine gate_dst (N := 2) rfl ?_); refine box_event ?hg (N := 2) ?hd (cs := #[.int .i64 0, .int .i64 0, .int .i64 0, .int .i64 0, .int .i64 0]) (t := 23) ?hr ?_; (case hd => rfl); (case hg => rfl); (case hr => first | (go_simp; done) | (go_simp; rfl)); intro gb310 hg w3 hbox hb; have n0_ := Aside0.mk (below_step (by repeat (first | (with_reducible first | exact HB.out | apply below_alloc | apply pw_below_drewN | apply below_drew1) | exact HB.out)) hb); have n1_ := Aside0.mk (hbox); have n2_ := Aside0.mk ((by rw [hg]; exact (below_size (by repeat (first | (with_reducible first | exact HB.out | apply below_alloc | apply pw_below_drewN | apply below_drew1) | exact HB.out))) : w.heap.size ≤ gb310)); have n3_ := Aside0.mk ((by rw [hg]; exact (below_size (by repeat (first | (with_reducible first | exact HB.out | apply below_alloc | apply pw_below_drewN | apply below_drew1) | exact HB.out))) : w.heap.size ≤ gb310)); clear HB; have HB := n0_; have BK310 := n1_; have GW310 := n2_; have GE310 := n3_; clear n0_ n1_ n2_ n3_; clear hb hbox hg) | ((with_reducible refine gate_dst (N := 4) rfl ?_); refine box_event ?hg (N := 4) ?hd (cs := #[.int .i64 0, .int .i64 0, .int .i64 0, .int .i64 0, .int .i64 0]) (t := 23) ?hr ?_; (case hd => rfl); (case hg => rfl); (case hr => first | (go_simp; done) | (go_simp; rfl)); intro gb311 hg w4 hbox hb; have n0_ := Aside0.mk (blk_below (g := gb310) (o := .cells #[.int .i64 0, .int .i64 0, .int .i64 0, .int .i64 0, .int .i64 0] 23 (0, 0)) (by (with_reducible repeat (first | refine blk_drewN ?_ _ | refine blk_drew ?_ | refine blk_alloc ?_ _)); exact BK310.out) hb); have n1_ := Aside0.mk (below_step (by repeat (first | (with_reducible first | exact HB.out | apply below_alloc | apply pw_below_drewN | apply below_drew1 | refine below_set ?_ GE310.out) | exact HB.out)) hb); have n2_ := Aside0.mk (hbox); have n3_ := Aside0.mk ((by rw [hg]; exact (below_size (by repeat (first | (with_reducible first | exact HB.out | apply below_alloc | apply pw_below_drewN | apply below_drew1 | refine below_set ?_ GE310.out) | exact HB.out))) : w.heap.size ≤ gb311)); have n4_ := Aside0.mk ((by rw [hg]; exact (below_size (by repeat (first | (with_reducible first | exact HB.out | apply below_alloc | apply pw_below_drewN | apply below_drew1 | refine below_set ?_ GE310.out) | exact HB.out))) : w.heap.size ≤ gb311)); have n5_ := Aside0.mk ((by rw [hg]; exact Nat.ne_of_lt (blk_lt (g := gb310) (o := .cells #[.int .i64 0, .int .i64 0, .int .i64 0, .int .i64 0, .int .i64 0] 23 (0, 0)) (by (with_reducible repeat (first | refine blk_drewN ?_ _ | refine blk_drew ?_ | refine blk_alloc ?_ _)); exact BK310.out)) : gb310 ≠ gb311)); have n6_ := Aside0.mk ((by rw [hg]; exact Nat.ne_of_gt (blk_lt (g := gb310) (o := .cells #[.int .i64 0, .int .i64 0, .int .i64 0, .int .i64 0, .int .i64 0] 23 (0, 0)) (by (with_reducible repeat (first | refine blk_drewN ?_ _ | refine blk_drew ?_ | refine blk_alloc ?_ _)); exact BK310.out)) : gb311 ≠ gb310)); clear BK310; clear HB; have BK310 := n0_; have HB := n1_; have BK311 := n2_; have GW311 := n3_; have GE311 := n4_; have NB310_311 := n5_; have NB311_310 := n6_; clear n0_ n1_ n2_ n3_ n4_ n5_ n6_; clear hb hbox hg; have hnb5 := NB311_310.out; have hnc5 := NB310_311.out; have hcz6_0 : w4.cell? ⟨gb311, 0, none⟩ = some (.int .i64 0) := (blk_cell BK311.out 0).trans rfl; have hcz6_1 : w4.cell? ⟨gb311, 1, none⟩ = some (.int .i64 0) := (blk_cell BK311.out 1).trans rfl; have hcz6_2 : w4.cell? ⟨gb311, 2, none⟩ = some (.int .i64 0) := (blk_cell BK311.out 2).trans rfl; have hcz6_3 : w4.cell? ⟨gb311, 3, none⟩ = some (.int .i64 0) := (blk_cell BK311.out 3).trans rfl; have hcz6_4 : w4.cell? ⟨gb311, 4, none⟩ = some (.int .i64 0) := (blk_cell BK311.out 4).trans rfl; have hfz6_0 := blk_frozen BK311.out 0; have hfz6_1 := blk_frozen BK311.out 1; have hfz6_2 := blk_frozen BK311.out 2; have hfz6_3 := blk_frozen BK311.out 3; have hfz6_4 := blk_frozen BK311.out 4; have hcz7_0 : w4.cell? ⟨gb310, 0, none⟩ = some (.int .i64 0) := (blk_cell BK310.out 0).trans rfl; have hcz7_1 : w4.cell? ⟨gb310, 1, none⟩ = some (.int .i64 0) := (blk_cell BK310.out 1).trans rfl; have hcz7_2 : w4.cell? ⟨gb310, 2, none⟩ = some (.int .i64 0) := (blk_cell BK310.out 2).trans rfl; have hcz7_3 : w4.cell? ⟨gb310, 3, none⟩ = some (.int .i64 0) := (blk_cell BK310.out 3).trans rfl; have hcz7_4 : w4.cell? ⟨gb310, 4, none⟩ = some (.int .i64 0) := (blk_cell BK310.out 4).trans rfl; have hfz7_0 := blk_frozen BK310.out 0; have hfz7_1 := blk_frozen BK310.out 1; have hfz7_2 := blk_frozen BK310.out 2; have hfz7_3 := blk_frozen BK310.out 3; have hfz7_4 := blk_frozen BK310.out 4))
    refine bodyPost_ret (results_ct rfl _ _ gb310 23 #[.int .i64 0, .int .i64 0, .int .i64 0, .int .i64 0, .int .i64 0] (0, 0) _ rfl (by (with_reducible repeat (first | refine blk_drewN ?_ _ | refine blk_drew ?_ | refine blk_alloc ?_ _)); refine blk_put (cs := #[.int .i64 0, .int .i64 0, .int .i64 0, .int .i64 0, .int .i64 0]) ?_ 4 _ rfl; (with_reducible repeat (first | refine blk_drewN ?_ _ | refine blk_drew ?_ | refine blk_alloc ?_ _)); refine blk_put (cs := #[.int .i64 0, .int .i64 0, .int .i64 0, .int .i64 0, .int .i64 0]) ?_ 3 _ rfl; (with_reducible repeat (first | refine blk_drewN ?_ _ | refine blk_drew ?_ | refine blk_alloc ?_ _)); refine blk_put (cs := #[.int .i64 0, .int .i64 0, .int .i64 0, .int .i64 0, .int .i64 0]) ?_ 2 _ rfl; (with_reducible repeat (first | refine blk_drewN ?_ _ | refine blk_drew ?_ | refine blk_alloc ?_ _)); refine blk_put (cs := #[.int .i64 0, .int .i64 0, .int .i64 0, .int .i64 0, .int .i64 0]) ?_ 1 _ rfl; (with_reducible repeat (first | refine blk_drewN ?_ _ | refine blk_drew ?_ | refine blk_alloc ?_ _)); refine blk_put (cs := #[.int .i64 0, .int .i64 0, .int .i64 0, .int .i64 0, .int .i64 0]) ?_ 0 _ rfl; (with_reducible repeat (first | refine blk_drewN ?_ _ | refine blk_drew ?_ | refine blk_alloc ?_ _)); refine blk_far ?_ NB310_311.out _; (with_reducible repeat (first | refine blk_drewN ?_ _ | refine blk_drew ?_ | refine blk_alloc ?_ _)); refine blk_far ?_ NB310_311.out _; (with_reducible repeat (first | refine blk_drewN ?_ _ | refine blk_drew ?_ | refine blk_alloc ?_ _)); refine blk_far ?_ NB310_311.out _; (with_reducible repeat (first | refine blk_drewN ?_ _ | refine blk_drew ?_ | refine blk_alloc ?_ _)); refine blk_far ?_ NB310_311.out _; (with_reducible repeat (first | refine blk_drewN ?_ _ | refine blk_drew ?_ | refine blk_alloc ?_ _)); refine blk_far ?_ NB310_311.out _; (with_reducible repeat (first | refine blk_drewN ?_ _ | refine blk_drew ?_ | refine blk_alloc ?_ _)); exact BK310.out) Tryd.underlying23 rfl (by kernel_rfl)) rfl ?_
    exact ⟨by first | rfl | (simp [errW_none, errW_some] <;> rfl) | (simp [*, errW_none, errW_some] <;> rfl), by repeat (first | (with_reducible first | exact HB.out | apply below_alloc | apply pw_below_drewN | apply below_drew1 | refine below_set ?_ GE310.out | refine below_set ?_ GE311.out) | exact HB.out)⟩
  · rw [if_neg c2] at H
    have c2b0 : decide ((l0.length : Int) < 18) = false := decide_eq_false c2
    have c2b1 : decide (l0.length < 18) = false := decide_eq_false (by omega)
    clear c2
    by_cases c8 : (l0.length : Int) > 18
    · rw [if_pos c8] at H
      have c8b0 : decide (18 < (l0.length : Int)) = true := decide_eq_true c8
      have c8b1 : decide (18 < l0.length) = true := decide_eq_true (by omega)
      clear c8
      simp only [Option.some.injEq, Prod.mk.injEq] at H
      obtain ⟨rfl, rfl, rfl, rfl, rfl, rfl⟩ := H
      go_enter Tryd.func14, Tryd.ntmps14
      go_wp2_with (first | ((with_reducible refine gate_dst (N := 2) rfl ?_); refine box_event ?hg (N := 2) ?hd (cs := #[.int .i64 0, .int .i64 0, .int .i64 0, .int .i64 0, .int .i64 0]) (t := 23) ?hr ?_; (case hd => rfl); (case hg => rfl); (case hr => first | (go_simp; done) | (go_simp; rfl)); intro gb310 hg w9 hbox hb; have n0_ := Aside0.mk (below_step (by repeat (first | (with_reducible first | exact HB.out | apply below_alloc | apply pw_below_drewN | apply below_drew1) | exact HB.out)) hb); have n1_ := Aside0.mk (hbox); have n2_ := Aside0.mk ((by rw [hg]; exact (below_size (by repeat (first | (with_reducible first | exact HB.out | apply below_alloc | apply pw_below_drewN | apply below_drew1) | exact HB.out))) : w.heap.size ≤ gb310)); have n3_ := Aside0.mk ((by rw [hg]; exact (below_size (by repeat (first | (with_reducible first | exact HB.out | apply below_alloc | apply pw_below_drewN | apply below_drew1) | exact HB.out))) : w.heap.size ≤ gb310)); clear HB; have HB := n0_; have BK310 := n1_; have GW310 := n2_; have GE310 := n3_; clear n0_ n1_ n2_ n3_; clear hb hbox hg) | ((with_reducible refine gate_dst (N := 4) rfl ?_); refine box_event ?hg (N := 4) ?hd (cs := #[.int .i64 0, .int .i64 0, .int .i64 0, .int .i64 0, .int .i64 0]) (t := 23) ?hr ?_; (case hd => rfl); (case hg => rfl); (case hr => first | (go_simp; done) | (go_simp; rfl)); intro gb311 hg w10 hbox hb; have n0_ := Aside0.mk (blk_below (g := gb310) (o := .cells #[.int .i64 0, .int .i64 0, .int .i64 0, .int .i64 0, .int .i64 0] 23 (0, 0)) (by (with_reducible repeat (first | refine blk_drewN ?_ _ | refine blk_drew ?_ | refine blk_alloc ?_ _)); exact BK310.out) hb); have n1_ := Aside0.mk (below_step (by repeat (first | (with_reducible first | exact HB.out | apply below_alloc | apply pw_below_drewN | apply below_drew1 | refine below_set ?_ GE310.out) | exact HB.out)) hb); have n2_ := Aside0.mk (hbox); have n3_ := Aside0.mk ((by rw [hg]; exact (below_size (by repeat (first | (with_reducible first | exact HB.out | apply below_alloc | apply pw_below_drewN | apply below_drew1 | refine below_set ?_ GE310.out) | exact HB.out))) : w.heap.size ≤ gb311)); have n4_ := Aside0.mk ((by rw [hg]; exact (below_size (by repeat (first | (with_reducible first | exact HB.out | apply below_alloc | apply pw_below_drewN | apply below_drew1 | refine below_set ?_ GE310.out) | exact HB.out))) : w.heap.size ≤ gb311)); have n5_ := Aside0.mk ((by rw [hg]; exact Nat.ne_of_lt (blk_lt (g := gb310) (o := .cells #[.int .i64 0, .int .i64 0, .int .i64 0, .int .i64 0, .int .i64 0] 23 (0, 0)) (by (with_reducible repeat (first | refine blk_drewN ?_ _ | refine blk_drew ?_ | refine blk_alloc ?_ _)); exact BK310.out)) : gb310 ≠ gb311)); have n6_ := Aside0.mk ((by rw [hg]; exact Nat.ne_of_gt (blk_lt (g := gb310) (o := .cells #[.int .i64 0, .int .i64 0, .int .i64 0, .int .i64 0, .int .i64 0] 23 (0, 0)) (by (with_reducible repeat (first | refine blk_drewN ?_ _ | refine blk_drew ?_ | refine blk_alloc ?_ _)); exact BK310.out)) : gb311 ≠ gb310)); clear BK310; clear HB; have BK310 := n0_; have HB := n1_; have BK311 := n2_; have GW311 := n3_; have GE311 := n4_; have NB310_311 := n5_; have NB311_310 := n6_; clear n0_ n1_ n2_ n3_ n4_ n5_ n6_; clear hb hbox hg; have hnb11 := NB311_310.out; have hnc11 := NB310_311.out; have hcz12_0 : w10.cell? ⟨gb311, 0, none⟩ = some (.int .i64 0) := (blk_cell BK311.out 0).trans rfl; have hcz12_1 : w10.cell? ⟨gb311, 1, none⟩ = some (.int .i64 0) := (blk_cell BK311.out 1).trans rfl; have hcz12_2 : w10.cell? ⟨gb311, 2, none⟩ = some (.int .i64 0) := (blk_cell BK311.out 2).trans rfl; have hcz12_3 : w10.cell? ⟨gb311, 3, none⟩ = some (.int .i64 0) := (blk_cell BK311.out 3).trans rfl; have hcz12_4 : w10.cell? ⟨gb311, 4, none⟩ = some (.int .i64 0) := (blk_cell BK311.out 4).trans rfl; have hfz12_0 := blk_frozen BK311.out 0; have hfz12_1 := blk_frozen BK311.out 1; have hfz12_2 := blk_frozen BK311.out 2; have hfz12_3 := blk_frozen BK311.out 3; have hfz12_4 := blk_frozen BK311.out 4; have hcz13_0 : w10.cell? ⟨gb310, 0, none⟩ = some (.int .i64 0) := (blk_cell BK310.out 0).trans rfl; have hcz13_1 : w10.cell? ⟨gb310, 1, none⟩ = some (.int .i64 0) := (blk_cell BK310.out 1).trans rfl; have hcz13_2 : w10.cell? ⟨gb310, 2, none⟩ = some (.int .i64 0) := (blk_cell BK310.out 2).trans rfl; have hcz13_3 : w10.cell? ⟨gb310, 3, none⟩ = some (.int .i64 0) := (blk_cell BK310.out 3).trans rfl; have hcz13_4 : w10.cell? ⟨gb310, 4, none⟩ = some (.int .i64 0) := (blk_cell BK310.out 4).trans rfl; have hfz13_0 := blk_frozen BK310.out 0; have hfz13_1 := blk_frozen BK310.out 1; have hfz13_2 := blk_frozen BK310.out 2; have hfz13_3 := blk_frozen BK310.out 3; have hfz13_4 := blk_frozen BK310.out 4))
      refine bodyPost_ret (results_ct rfl _ _ gb310 23 #[.int .i64 0, .int .i64 0, .int .i64 0, .int .i64 0, .int .i64 0] (0, 0) _ rfl (by (with_reducible repeat (first | refine blk_drewN ?_ _ | refine blk_drew ?_ | refine blk_alloc ?_ _)); refine blk_put (cs := #[.int .i64 0, .int .i64 0, .int .i64 0, .int .i64 0, .int .i64 0]) ?_ 4 _ rfl; (with_reducible repeat (first | refine blk_drewN ?_ _ | refine blk_drew ?_ | refine blk_alloc ?_ _)); refine blk_put (cs := #[.int .i64 0, .int .i64 0, .int .i64 0, .int .i64 0, .int .i64 0]) ?_ 3 _ rfl; (with_reducible repeat (first | refine blk_drewN ?_ _ | refine blk_drew ?_ | refine blk_alloc ?_ _)); refine blk_put (cs := #[.int .i64 0, .int .i64 0, .int .i64 0, .int .i64 0, .int .i64 0]) ?_ 2 _ rfl; (with_reducible repeat (first | refine blk_drewN ?_ _ | refine blk_drew ?_ | refine blk_alloc ?_ _)); refine blk_put (cs := #[.int .i64 0, .int .i64 0, .int .i64 0, .int .i64 0, .int .i64 0]) ?_ 1 _ rfl; (with_reducible repeat (first | refine blk_drewN ?_ _ | refine blk_drew ?_ | refine blk_alloc ?_ _)); refine blk_put (cs := #[.int .i64 0, .int .i64 0, .int .i64 0, .int .i64 0, .int .i64 0]) ?_ 0 _ rfl; (with_reducible repeat (first | refine blk_drewN ?_ _ | refine blk_drew ?_ | refine blk_alloc ?_ _)); refine blk_far ?_ NB310_311.out _; (with_reducible repeat (first | refine blk_drewN ?_ _ | refine blk_drew ?_ | refine blk_alloc ?_ _)); refine blk_far ?_ NB310_311.out _; (with_reducible repeat (first | refine blk_drewN ?_ _ | refine blk_drew ?_ | refine blk_alloc ?_ _)); refine blk_far ?_ NB310_311.out _; (with_reducible repeat (first | refine blk_drewN ?_ _ | refine blk_drew ?_ | refine blk_alloc ?_ _)); refine blk_far ?_ NB310_311.out _; (with_reducible repeat (first | refine blk_drewN ?_ _ | refine blk_drew ?_ | refine blk_alloc ?_ _)); refine blk_far ?_ NB310_311.out _; (with_reducible repeat (first | refine blk_drewN ?_ _ | refine blk_drew ?_ | refine blk_alloc ?_ _)); exact BK310.out) Tryd.underlying23 rfl (by kernel_rfl)) rfl ?_
      exact ⟨by first | rfl | (simp [errW_none, errW_some] <;> rfl) | (simp [*, errW_none, errW_some] <;> rfl), by repeat (first | (with_reducible first | exact HB.out | apply below_alloc | apply pw_below_drewN | apply below_drew1 | refine below_set ?_ GE310.out | refine below_set ?_ GE311.out) | exact HB.out)⟩
    · rw [if_neg c8] at H
      have c8b0 : decide (18 < (l0.length : Int)) = false := decide_eq_false c8
      have c8b1 : decide (18 < l0.length) = false := decide_eq_false (by omega)
      clear c8
      replace H := Option.bind_eq_some_iff.mp H
      obtain ⟨t312, A140, H⟩ := H
      replace H : (if t312 = 0 then ((wayfinderref02_GetAll.f k l0 (([4, 4, 4, 2, 2] : List Int))).bind fun bt316 => (if 0 < (bt316.1.length : Int) then (if 1 < (bt316.1.length : Int) then (if 2 < (bt316.1.length : Int) then (if 3 < (bt316.1.length : Int) then (if 4 < (bt316.1.length : Int) then ((wayfinderref03_May.f (rd bt316.1 0) (rd bt316.1 1) (rd bt316.1 2) (rd bt316.1 3) (rd bt316.1 4)).bind fun t327 => (if t327 = true then (some (rd bt316.1 0, rd bt316.1 1, rd bt316.1 2, rd bt316.1 3, rd bt316.1 4, 0)) else (some (0, 0, 0, 0, 0, 2)))) else (none)) else (none)) else (none)) else (none)) else (none))) else (some (0, 0, 0, 0, 0, 4))) = some (r1, r2, r3, r4, r5, r6) := H
      have A14 := Aside0.mk A140
      clear A140
      by_cases c15 : t312 = 0
      · rw [if_pos c15] at H
        have c15b0 : (t312 == 0) = true := beq_iff_eq.mpr c15
        have c15b1 : (t312 != 0) = false := bne_eq_false_iff_eq.mpr c15
        clear c15
        obtain ⟨y313, hy313⟩ : ∃ y_ : List Int, y_ = (([4, 4, 4, 2, 2] : List Int)) := ⟨_, rfl⟩
        replace H : ((wayfinderref02_GetAll.f k l0 y313).bind fun bt316 => (if 0 < (bt316.1.length : Int) then (if 1 < (bt316.1.length : Int) then (if 2 < (bt316.1.length : Int) then (if 3 < (bt316.1.length : Int) then (if 4 < (bt316.1.length : Int) then ((wayfinderref03_May.f (rd bt316.1 0) (rd bt316.1 1) (rd bt316.1 2) (rd bt316.1 3) (rd bt316.1 4)).bind fun t327 => (if t327 = true then (some (rd bt316.1 0, rd bt316.1 1, rd bt316.1 2, rd bt316.1 3, rd bt316.1 4, 0)) else (some (0, 0, 0, 0, 0, 2)))) else (none)) else (none)) else (none)) else (none)) else (none))) = some (r1, r2, r3, r4, r5, r6) := by first | (rw [hy313]; with_reducible exact H) | (have H2_ := (Option.bind_some _ _).symm.trans H; rw [hy313]; with_reducible exact H2_) | (have H2_ := (Option.bind_some _ _).symm.trans H; with_reducible exact H2_) | with_reducible exact H | (rw [hy313]; exact H) | exact H
        have Ny313 := Aside0.mk hy313
        clear hy313
        replace H := Option.bind_eq_some_iff.mp H
        obtain ⟨⟨t316, t317, t318⟩, A160, H⟩ := H
        replace H : (if 0 < (t316.length : Int) then (if 1 < (t316.length : Int) then (if 2 < (t316.length : Int) then (if 3 < (t316.length : Int) then (if 4 < (t316.length : Int) then ((wayfinderref03_May.f (rd t316 0) (rd t316 1) (rd t316 2) (rd t316 3) (rd t316 4)).bind fun t327 => (if t327 = true then (some (rd t316 0, rd t316 1, rd t316 2, rd t316 3, rd t316 4, 0)) else (some (0, 0, 0, 0, 0, 2)))) else (none)) else (none)) else (none)) else (none)) else (none)) = some (r1, r2, r3, r4, r5, r6) := H
        have A16 := Aside0.mk A160
        clear A160
        by_cases c17 : 0 < (t316.length : Int)
        · rw [if_pos c17] at H
          have c17b0 : decide (0 < (t316.length : Int)) = true := decide_eq_true c17
          have c17b1 : decide (0 < t316.length) = true := decide_eq_true (by omega)
          clear c17
          by_cases c18 : 1 < (t316.length : Int)
          · rw [if_pos c18] at H
            have c18b0 : decide (1 < (t316.length : Int)) = true := decide_eq_true c18
            have c18b1 : decide (1 < t316.length) = true := decide_eq_true (by omega)
            clear c18
            by_cases c19 : 2 < (t316.length : Int)
            · rw [if_pos c19] at H
              have c19b0 : decide (2 < (t316.length : Int)) = true := decide_eq_true c19
              have c19b1 : decide (2 < t316.length) = true := decide_eq_true (by omega)
              clear c19
              by_cases c20 : 3 < (t316.length : Int)
              · rw [if_pos c20] at H
                have c20b0 : decide (3 < (t316.length : Int)) = true := decide_eq_true c20
                have c20b1 : decide (3 < t316.length) = true := decide_eq_true (by omega)
                clear c20
                by_cases c21 : 4 < (t316.length : Int)
                · rw [if_pos c21] at H
                  have c21b0 : decide (4 < (t316.length : Int)) = true := decide_eq_true c21
                  have c21b1 : decide (4 < t316.length) = true := decide_eq_true (by omega)
                  clear c21
                  replace H := Option.bind_eq_some_iff.mp H
                  obtain ⟨t327, A220, H⟩ := H
                  replace H : (if t327 = true then (some (rd t316 0, rd t316 1, rd t316 2, rd t316 3, rd t316 4, 0)) else (some (0, 0, 0, 0, 0, 2))) = some (r1, r2, r3, r4, r5, r6) := H
                  have A22 := Aside0.mk A220
                  clear A220
                  by_cases c23 : t327 = true
                  · subst c23
                    have H1 : (some (rd t316 0, rd t316 1, rd t316 2, rd t316 3, rd t316 4, 0)) = some (r1, r2, r3, r4, r5, r6) := by rw [if_pos rfl] at H; exact H
                    clear H
                    have H := H1
                    clear H1
                    simp only [Option.some.injEq, Prod.mk.injEq] at H
                    obtain ⟨rfl, rfl, rfl, rfl, rfl, rfl⟩ := H
                    go_enter Tryd.func14, Tryd.ntmps14
                    try go_wp2_with (first | ((with_reducible refine gate_dst (N := 2) rfl ?_); refine box_event ?hg (N := 2) ?hd (cs := #[.int .i64 0, .int .i64 0, .int .i64 0, .int .i64 0, .int .i64 0]) (t := 23) ?hr ?_; (case hd => rfl); (case hg => rfl); (case hr => first | (go_simp; done) | (go_simp; rfl)); intro gb310 hg w24 hbox hb; have n0_ := Aside0.mk (below_step (by repeat (first | (with_reducible first | exact HB.out | apply below_alloc | apply pw_below_drewN | apply below_drew1) | exact HB.out)) hb); have n1_ := Aside0.mk (hbox); have n2_ := Aside0.mk ((by rw [hg]; exact (below_size (by repeat (first | (with_reducible first | exact HB.out | apply below_alloc | apply pw_below_drewN | apply below_drew1) | exact HB.out))) : w.heap.size ≤ gb310)); have n3_ := Aside0.mk ((by rw [hg]; exact (below_size (by repeat (first | (with_reducible first | exact HB.out | apply below_alloc | apply pw_below_drewN | apply below_drew1) | exact HB.out))) : w.heap.size ≤ gb310)); clear HB; have HB := n0_; have BK310 := n1_; have GW310 := n2_; have GE310 := n3_; clear n0_ n1_ n2_ n3_; clear hb hbox hg) | ((with_reducible refine gate_dst (N := 4) rfl ?_); refine box_event ?hg (N := 4) ?hd (cs := #[.int .i64 0, .int .i64 0, .int .i64 0, .int .i64 0, .int .i64 0]) (t := 23) ?hr ?_; (case hd => rfl); (case hg => rfl); (case hr => first | (go_simp; done) | (go_simp; rfl)); intro gb311 hg w25 hbox hb; have n0_ := Aside0.mk (blk_below (g := gb310) (o := .cells #[.int .i64 0, .int .i64 0, .int .i64 0, .int .i64 0, .int .i64 0] 23 (0, 0)) (by (with_reducible repeat (first | refine blk_drewN ?_ _ | refine blk_drew ?_ | refine blk_alloc ?_ _)); exact BK310.out) hb); have n1_ := Aside0.mk (below_step (by repeat (first | (with_reducible first | exact HB.out | apply below_alloc | apply pw_below_drewN | apply below_drew1 | refine below_set ?_ GE310.out) | exact HB.out)) hb); have n2_ := Aside0.mk (hbox); have n3_ := Aside0.mk ((by rw [hg]; exact (below_size (by repeat (first | (with_reducible first | exact HB.out | apply below_alloc | apply pw_below_drewN | apply below_drew1 | refine below_set ?_ GE310.out) | exact HB.out))) : w.heap.size ≤ gb311)); have n4_ := Aside0.mk ((by rw [hg]; exact (below_size (by repeat (first | (with_reducible first | exact HB.out | apply below_alloc | apply pw_below_drewN | apply below_drew1 | refine below_set ?_ GE310.out) | exact HB.out))) : w.heap.size ≤ gb311)); have n5_ := Aside0.mk ((by rw [hg]; exact Nat.ne_of_lt (blk_lt (g := gb310) (o := .cells #[.int .i64 0, .int .i64 0, .int .i64 0, .int .i64 0, .int .i64 0] 23 (0, 0)) (by (with_reducible repeat (first | refine blk_drewN ?_ _ | refine blk_drew ?_ | refine blk_alloc ?_ _)); exact BK310.out)) : gb310 ≠ gb311)); have n6_ := Aside0.mk ((by rw [hg]; exact Nat.ne_of_gt (blk_lt (g := gb310) (o := .cells #[.int .i64 0, .int .i64 0, .int .i64 0, .int .i64 0, .int .i64 0] 23 (0, 0)) (by (with_reducible repeat (first | refine blk_drewN ?_ _ | refine blk_drew ?_ | refine blk_alloc ?_ _)); exact BK310.out)) : gb311 ≠ gb310)); clear BK310; clear HB; have BK310 := n0_; have HB := n1_; have BK311 := n2_; have GW311 := n3_; have GE311 := n4_; have NB310_311 := n5_; have NB311_310 := n6_; clear n0_ n1_ n2_ n3_ n4_ n5_ n6_; clear hb hbox hg; have hnb26 := NB311_310.out; have hnc26 := NB310_311.out; have hcz27_0 : w25.cell? ⟨gb311, 0, none⟩ = some (.int .i64 0) := (blk_cell BK311.out 0).trans rfl; have hcz27_1 : w25.cell? ⟨gb311, 1, none⟩ = some (.int .i64 0) := (blk_cell BK311.out 1).trans rfl; have hcz27_2 : w25.cell? ⟨gb311, 2, none⟩ = some (.int .i64 0) := (blk_cell BK311.out 2).trans rfl; have hcz27_3 : w25.cell? ⟨gb311, 3, none⟩ = some (.int .i64 0) := (blk_cell BK311.out 3).trans rfl; have hcz27_4 : w25.cell? ⟨gb311, 4, none⟩ = some (.int .i64 0) := (blk_cell BK311.out 4).trans rfl; have hfz27_0 := blk_frozen BK311.out 0; have hfz27_1 := blk_frozen BK311.out 1; have hfz27_2 := blk_frozen BK311.out 2; have hfz27_3 := blk_frozen BK311.out 3; have hfz27_4 := blk_frozen BK311.out 4) | ((with_reducible refine gate_callee (f := 21) rfl ?_); refine goesL_ (some 20) rfl rfl Tryd.func21 (by kernel_rfl) rfl #[.slice A0 l0.length c0] rfl (by (try simp only [List.map_toArray, List.map_cons, List.map_nil]); first | done | rfl | (simp only [List.length_drop, List.length_take]; rfl)) ?_; (with_reducible refine (wayfinderref02_Sum.calls k _ _ l0 t312 _ ?side1 ?side2 A14.out).mono ?_); (case side1 => exact Kd.C_below HR0.out (by repeat (first | (with_reducible first | exact HB.out | apply below_alloc | apply pw_below_drewN | apply below_drew1 | refine below_set ?_ GE310.out | refine below_set ?_ GE311.out) | exact HB.out))); (case side2 => exact HC0.out); rintro e w' ⟨rfl, ⟨nd, rfl⟩⟩; refine ⟨_, rfl, ?_⟩) | ((with_reducible refine gate_dst (N := 25) rfl ?_); refine Kd.R_lit (Kd.int .i64) _ 3 ?hg (N := 25) ?hd (xs := ([4, 4, 4, 2, 2] : List Int)) (inner := [.int .i64 4, .int .i64 4, .int .i64 4, .int .i64 2, .int .i64 2]) (ok := fun _ => True) (okp := fun _ => True) ?hr ?hp (fun _ hk => hk) trivial (Below.refl _ _) (Nat.le_refl _) (by simp) ?_; (case hd => rfl); (case hg => rfl); (case hr => first | (go_simp; done) | (go_simp; rfl)); (case hp => exact (Reps.one (show Kd.M (Kd.int .i64) _ _ _ 4 [.int .i64 4] from rfl) (Reps.one (show Kd.M (Kd.int .i64) _ _ _ 4 [.int .i64 4] from rfl) (Reps.one (show Kd.M (Kd.int .i64) _ _ _ 4 [.int .i64 4] from rfl) (Reps.one (show Kd.M (Kd.int .i64) _ _ _ 2 [.int .i64 2] from rfl) (Reps.one (show Kd.M (Kd.int .i64) _ _ _ 2 [.int .i64 2] from rfl) (Reps.none _ _))))))); intro v314 w28 ho29 hb hg_ hnew_; clear hg_ hnew_; (first | rw [← Ny313.out] at ho29 | (simp only [Int.reduceToNat] at ho29; rw [← Ny313.out] at ho29)); have n0_ := Aside0.mk (Kd.R_lower ho29 (below_size (by repeat (first | (with_reducible first | exact HB.out | apply below_alloc | apply pw_below_drewN | apply below_drew1 | refine below_set ?_ GE310.out | refine below_set ?_ GE311.out) | exact HB.out)))); have n1_ := Aside0.mk (blk_below (g := gb310) (o := .cells #[.int .i64 0, .int .i64 0, .int .i64 0, .int .i64 0, .int .i64 0] 23 (0, 0)) (by (with_reducible repeat (first | refine blk_drewN ?_ _ | refine blk_drew ?_ | refine blk_alloc ?_ _)); refine blk_far ?_ NB310_311.out _; (with_reducible repeat (first | refine blk_drewN ?_ _ | refine blk_drew ?_ | refine blk_alloc ?_ _)); refine blk_far ?_ NB310_311.out _; (with_reducible repeat (first | refine blk_drewN ?_ _ | refine blk_drew ?_ | refine blk_alloc ?_ _)); refine blk_far ?_ NB310_311.out _; (with_reducible repeat (first | refine blk_drewN ?_ _ | refine blk_drew ?_ | refine blk_alloc ?_ _)); refine blk_far ?_ NB310_311.out _; (with_reducible repeat (first | refine blk_drewN ?_ _ | refine blk_drew ?_ | refine blk_alloc ?_ _)); refine blk_far ?_ NB310_311.out _; (with_reducible repeat (first | refine blk_drewN ?_ _ | refine blk_drew ?_ | refine blk_alloc ?_ _)); exact BK310.out) hb); have n2_ := Aside0.mk (blk_below (g := gb311) (o := .cells #[.int .i64 0, .int .i64 0, .int .i64 0, .int .i64 0, .int .i64 0] 23 (0, 0)) (by (with_reducible repeat (first | refine blk_drewN ?_ _ | refine blk_drew ?_ | refine blk_alloc ?_ _)); refine blk_put (cs := #[.int .i64 0, .int .i64 0, .int .i64 0, .int .i64 0, .int .i64 0]) ?_ 4 _ rfl; (with_reducible repeat (first | refine blk_drewN ?_ _ | refine blk_drew ?_ | refine blk_alloc ?_ _)); refine blk_put (cs := #[.int .i64 0, .int .i64 0, .int .i64 0, .int .i64 0, .int .i64 0]) ?_ 3 _ rfl; (with_reducible repeat (first | refine blk_drewN ?_ _ | refine blk_drew ?_ | refine blk_alloc ?_ _)); refine blk_put (cs := #[.int .i64 0, .int .i64 0, .int .i64 0, .int .i64 0, .int .i64 0]) ?_ 2 _ rfl; (with_reducible repeat (first | refine blk_drewN ?_ _ | refine blk_drew ?_ | refine blk_alloc ?_ _)); refine blk_put (cs := #[.int .i64 0, .int .i64 0, .int .i64 0, .int .i64 0, .int .i64 0]) ?_ 1 _ rfl; (with_reducible repeat (first | refine blk_drewN ?_ _ | refine blk_drew ?_ | refine blk_alloc ?_ _)); refine blk_put (cs := #[.int .i64 0, .int .i64 0, .int .i64 0, .int .i64 0, .int .i64 0]) ?_ 0 _ rfl; (with_reducible repeat (first | refine blk_drewN ?_ _ | refine blk_drew ?_ | refine blk_alloc ?_ _)); exact BK311.out) hb); have n3_ := Aside0.mk (below_step (by repeat (first | (with_reducible first | exact HB.out | apply below_alloc | apply pw_below_drewN | apply below_drew1 | refine below_set ?_ GE310.out | refine below_set ?_ GE311.out) | exact HB.out)) hb); clear BK310; clear BK311; clear HB; have HO315 := n0_; have BK310 := n1_; have BK311 := n2_; have HB := n3_; clear n0_ n1_ n2_ n3_; clear hb ho29; obtain ⟨Ao30, co30, eo30⟩ := Kd.R_slice HO315.out; subst eo30) | ((with_reducible refine gate_callee (f := 23) rfl ?_); refine goesL_ (some 26) rfl rfl Tryd.func23 (by kernel_rfl) rfl #[.slice A0 l0.length c0, .slice Ao30 y313.length co30] rfl (by (try simp only [List.map_toArray, List.map_cons, List.map_nil]); first | done | rfl | (simp only [List.length_drop, List.length_take]; rfl)) ?_; (with_reducible refine (wayfinderref02_GetAll.calls k _ _ l0 _ _ y313 t316 t317 t318 _ ?side1 ?side2 ?side3 ?side4 A16.out).mono ?_); (case side1 => repeat (first | exact (Kd.C_below HR0.out HB.out) | (with_reducible refine Kd.C_alloc ?_ _) | (with_reducible refine Kd.C_drewN ?_ _) | (with_reducible refine Kd.C_drew ?_))); (case side2 => exact HC0.out); (case side3 => repeat (first | exact (Kd.R_reads' HO315.out).2.2 | (with_reducible refine Kd.C_alloc ?_ _) | (with_reducible refine Kd.C_drewN ?_ _) | (with_reducible refine Kd.C_drew ?_))); (case side4 => exact (Kd.R_reads' HO315.out).2.1); rintro e w31 ⟨v319, rfl, ho0, hb⟩; refine ⟨_, rfl, ?_⟩; have n0_ := Aside0.mk (Kd.R_elder' (by (with_reducible repeat (first | apply Kd.R_alloc | apply Kd.R_drewN | apply Kd.R_drew)); exact HO315.out) (Kd.R_base ho0) hb); have n1_ := Aside0.mk (Kd.R_lower (Kd.R_new' ho0 (Kd.R_lt (by (with_reducible repeat (first | apply Kd.R_alloc | apply Kd.R_drewN | apply Kd.R_drew)); exact HO315.out))) (below_size (by repeat (first | (with_reducible first | exact HB.out | apply below_alloc | apply pw_below_drewN | apply below_drew1 | refine below_set ?_ GE310.out | refine below_set ?_ GE311.out) | exact HB.out)))); have n2_ := Aside0.mk (blk_below (g := gb310) (o := .cells #[.int .i64 0, .int .i64 0, .int .i64 0, .int .i64 0, .int .i64 0] 23 (0, 0)) (by (with_reducible repeat (first | refine blk_drewN ?_ _ | refine blk_drew ?_ | refine blk_alloc ?_ _)); exact BK310.out) hb); have n3_ := Aside0.mk (blk_below (g := gb311) (o := .cells #[.int .i64 0, .int .i64 0, .int .i64 0, .int .i64 0, .int .i64 0] 23 (0, 0)) (by (with_reducible repeat (first | refine blk_drewN ?_ _ | refine blk_drew ?_ | refine blk_alloc ?_ _)); exact BK311.out) hb); have n4_ := Aside0.mk (below_step (by repeat (first | (with_reducible first | exact HB.out | apply below_alloc | apply pw_below_drewN | apply below_drew1 | refine below_set ?_ GE310.out | refine below_set ?_ GE311.out) | exact HB.out)) hb); clear HO315; clear BK310; clear BK311; clear HB; have HO315 := n0_; have HO320 := n1_; have BK310 := n2_; have BK311 := n3_; have HB := n4_; clear n0_ n1_ n2_ n3_ n4_; (try clear hb); (try clear hb2); (try clear hk); (try clear hi); (try clear ho0)))
                    have n0_ := Aside0.mk (Kd.R_drew HO315.out)
                    have n1_ := Aside0.mk (Kd.R_drew HO320.out)
                    have n2_ := Aside0.mk (blk_drew BK310.out)
                    have n3_ := Aside0.mk (blk_drew BK311.out)
                    have n4_ := Aside0.mk (below_drew1 HB.out)
                    clear HO315
                    clear HO320
                    clear BK310
                    clear BK311
                    clear HB
                    have HO315 := n0_
                    have HO320 := n1_
                    have BK310 := n2_
                    have BK311 := n3_
                    have HB := n4_
                    clear n0_ n1_ n2_ n3_ n4_
                    obtain ⟨Ao33, co33, eo33⟩ := Kd.R_slice HO320.out
                    (first | subst eo33 | (injection eo33 with f1_ f2_ f3_; have f4_ := f1_.symm; have f5_ := f3_.symm; clear f1_ f2_ f3_; subst f4_; subst f5_))
                    have p321 : 0 ≤ (0 : Int) := (by omega)
                    have q321 : 0 < (t316.length : Int) := of_decide_eq_true (by first | (with_reducible assumption) | assumption)
                    obtain ⟨ad321, e321, hx321_0⟩ := Kd.at_int (Kd.R_reads' HO320.out).2.2 0 p321 q321
                    cases e321
                    have qi321 : (0 < t316.length) = True := eq_true (by omega)
                    (try rw [show ((0 : Int)).toNat = 0 from rfl] at hx321_0)
                    (try rw [Addr.add_zero'] at hx321_0)
                    replace p321 := eq_true p321
                    replace q321 := eq_true q321
                    have p322 : 0 ≤ (1 : Int) := (by omega)
                    have q322 : 1 < (t316.length : Int) := of_decide_eq_true (by first | (with_reducible assumption) | assumption)
                    obtain ⟨ad322, e322, hx322_0⟩ := Kd.at_int (Kd.R_reads' HO320.out).2.2 1 p322 q322
                    obtain rfl : ad321 = ad322 := (by injection e322)
                    (try simp only [show (1 : Int).toNat = 1 from rfl, Nat.reduceMul, Nat.reduceEqDiff, Go.Addr.add, ↓reduceIte] at hx322_0)
                    have qi322 : (1 < t316.length) = True := eq_true (by omega)
                    (try rw [show ((1 : Int)).toNat = 1 from rfl] at hx322_0)
                    replace p322 := eq_true p322
                    replace q322 := eq_true q322
                    have p323 : 0 ≤ (2 : Int) := (by omega)
                    have q323 : 2 < (t316.length : Int) := of_decide_eq_true (by first | (with_reducible assumption) | assumption)
                    obtain ⟨ad323, e323, hx323_0⟩ := Kd.at_int (Kd.R_reads' HO320.out).2.2 2 p323 q323
                    obtain rfl : ad321 = ad323 := (by injection e323)
                    (try simp only [show (2 : Int).toNat = 2 from rfl, Nat.reduceMul, Nat.reduceEqDiff, Go.Addr.add, ↓reduceIte] at hx323_0)
                    have qi323 : (2 < t316.length) = True := eq_true (by omega)
                    (try rw [show ((2 : Int)).toNat = 2 from rfl] at hx323_0)
                    replace p323 := eq_true p323
                    replace q323 := eq_true q323
                    have p324 : 0 ≤ (3 : Int) := (by omega)
                    have q324 : 3 < (t316.length : Int) := of_decide_eq_true (by first | (with_reducible assumption) | assumption)
                    obtain ⟨ad324, e324, hx324_0⟩ := Kd.at_int (Kd.R_reads' HO320.out).2.2 3 p324 q324
                    obtain rfl : ad321 = ad324 := (by injection e324)
                    (try simp only [show (3 : Int).toNat = 3 from rfl, Nat.reduceMul, Nat.reduceEqDiff, Go.Addr.add, ↓reduceIte] at hx324_0)
                    have qi324 : (3 < t316.length) = True := eq_true (by omega)
                    (try rw [show ((3 : Int)).toNat = 3 from rfl] at hx324_0)
                    replace p324 := eq_true p324
                    replace q324 := eq_true q324
                    have p325 : 0 ≤ (4 : Int) := (by omega)
                    have q325 : 4 < (t316.length : Int) := of_decide_eq_true (by first | (with_reducible assumption) | assumption)
                    obtain ⟨ad325, e325, hx325_0⟩ := Kd.at_int (Kd.R_reads' HO320.out).2.2 4 p325 q325
                    obtain rfl : ad321 = ad325 := (by injection e325)
                    (try simp only [show (4 : Int).toNat = 4 from rfl, Nat.reduceMul, Nat.reduceEqDiff, Go.Addr.add, ↓reduceIte] at hx325_0)
                    have qi325 : (4 < t316.length) = True := eq_true (by omega)
                    (try rw [show ((4 : Int)).toNat = 4 from rfl] at hx325_0)
                    replace p325 := eq_true p325
                    replace q325 := eq_true q325
                    refine start_ (n := 18) (S := fun w' => w'.cell? ad321 = some (.int .i64 (rd t316 0)) ∧ w'.cell? ⟨ad321.block, ad321.off + 1, none⟩ = some (.int .i64 (rd t316 1)) ∧ w'.cell? ⟨ad321.block, ad321.off + 2, none⟩ = some (.int .i64 (rd t316 2)) ∧ w'.cell? ⟨ad321.block, ad321.off + 3, none⟩ = some (.int .i64 (rd t316 3)) ∧ w'.cell? ⟨ad321.block, ad321.off + 4, none⟩ = some (.int .i64 (rd t316 4))) (ds := []) #[false, false, false, false, false, false, false, false, false, false, false, false, false, false, false, false, false, false] (by kernel_rfl) rfl rfl ⟨hx321_0, hx322_0, hx323_0, hx324_0, hx325_0⟩ (fun hHeld => ?_); refine with_tabW wayfinderref03_Get.tab9 wayfinderref03_Get.bits9 (fun HT_ HW_ => ?_)
                    generalize w31.drew = w32 at HO315 HO320 BK310 BK311 HB hx321_0 hx322_0 hx323_0 hx324_0 hx325_0 hHeld ⊢
                    refine pure_ (i := 0) (N := some 30) (v := ?_) (a' := ?_) #[true, false, false, false, false, false, false, false, false, false, false, false, false, false, false, false, false, false] rfl rfl (any_of HT_.out (by kernel_rfl)) (fun _ _ _ h => h) (Or.inl ⟨by rfl, ?_⟩) ?_ ?_
                    rotate_left
                    · intro w'
                      go_simp
                      with_reducible rfl
                    rotate_left
                    · simp only [Act.put, List.setIfInBounds_toArray, List.set_cons_zero, List.set_cons_succ, i64_w, i32_w]
                      rfl
                    refine pure_ (i := 1) (N := some 31) (v := ?_) (a' := ?_) #[true, true, false, false, false, false, false, false, false, false, false, false, false, false, false, false, false, false] rfl rfl (any_of HT_.out (by kernel_rfl)) (fun _ _ _ h => h) (Or.inl ⟨by rfl, ?_⟩) ?_ ?_
                    rotate_left
                    · intro w'
                      go_simp
                      with_reducible rfl
                    rotate_left
                    · simp only [Act.put, List.setIfInBounds_toArray, List.set_cons_zero, List.set_cons_succ, i64_w, i32_w]
                      rfl
                    refine pure_ (i := 3) (N := some 33) (v := ?_) (a' := ?_) #[true, true, false, true, false, false, false, false, false, false, false, false, false, false, false, false, false, false] rfl rfl (any_of HT_.out (by kernel_rfl)) (fun _ _ _ h => h) (Or.inl ⟨by rfl, ?_⟩) ?_ ?_
                    rotate_left
                    · intro w'
                      go_simp
                      with_reducible rfl
                    rotate_left
                    · simp only [Act.put, List.setIfInBounds_toArray, List.set_cons_zero, List.set_cons_succ, i64_w, i32_w]
                      rfl
                    refine pure_ (i := 4) (N := some 34) (v := ?_) (a' := ?_) #[true, true, false, true, true, false, false, false, false, false, false, false, false, false, false, false, false, false] rfl rfl (any_of HT_.out (by kernel_rfl)) (fun _ _ _ h => h) (Or.inl ⟨by rfl, ?_⟩) ?_ ?_
                    rotate_left
                    · intro w'
                      go_simp
                      with_reducible rfl
                    rotate_left
                    · simp only [Act.put, List.setIfInBounds_toArray, List.set_cons_zero, List.set_cons_succ, i64_w, i32_w]
                      rfl
                    refine pure_ (i := 6) (N := some 36) (v := ?_) (a' := ?_) #[true, true, false, true, true, false, true, false, false, false, false, false, false, false, false, false, false, false] rfl rfl (any_of HT_.out (by kernel_rfl)) (fun _ _ _ h => h) (Or.inl ⟨by rfl, ?_⟩) ?_ ?_
                    rotate_left
                    · intro w'
                      go_simp
                      with_reducible rfl
                    rotate_left
                    · simp only [Act.put, List.setIfInBounds_toArray, List.set_cons_zero, List.set_cons_succ, i64_w, i32_w]
                      rfl
                    refine pure_ (i := 7) (N := some 37) (v := ?_) (a' := ?_) #[true, true, false, true, true, false, true, true, false, false, false, false, false, false, false, false, false, false] rfl rfl (any_of HT_.out (by kernel_rfl)) (fun _ _ _ h => h) (Or.inl ⟨by rfl, ?_⟩) ?_ ?_
                    rotate_left
                    · intro w'
                      go_simp
                      with_reducible rfl
                    rotate_left
                    · simp only [Act.put, List.setIfInBounds_toArray, List.set_cons_zero, List.set_cons_succ, i64_w, i32_w]
                      rfl
                    refine pure_ (i := 9) (N := some 39) (v := ?_) (a' := ?_) #[true, true, false, true, true, false, true, true, false, true, false, false, false, false, false, false, false, false] rfl rfl (any_of HT_.out (by kernel_rfl)) (fun _ _ _ h => h) (Or.inl ⟨by rfl, ?_⟩) ?_ ?_
                    rotate_left
                    · intro w'
                      go_simp
                      with_reducible rfl
                    rotate_left
                    · simp only [Act.put, List.setIfInBounds_toArray, List.set_cons_zero, List.set_cons_succ, i64_w, i32_w]
                      rfl
                    refine pure_ (i := 10) (N := some 40) (v := ?_) (a' := ?_) #[true, true, false, true, true, false, true, true, false, true, true, false, false, false, false, false, false, false] rfl rfl (any_of HT_.out (by kernel_rfl)) (fun _ _ _ h => h) (Or.inl ⟨by rfl, ?_⟩) ?_ ?_
                    rotate_left
                    · intro w'
                      go_simp
                      with_reducible rfl
                    rotate_left
                    · simp only [Act.put, List.setIfInBounds_toArray, List.set_cons_zero, List.set_cons_succ, i64_w, i32_w]
                      rfl
                    refine pure_ (i := 12) (N := some 42) (v := ?_) (a' := ?_) #[true, true, false, true, true, false, true, true, false, true, true, false, true, false, false, false, false, false] rfl rfl (any_of HT_.out (by kernel_rfl)) (fun _ _ _ h => h) (Or.inl ⟨by rfl, ?_⟩) ?_ ?_
                    rotate_left
                    · intro w'
                      go_simp
                      with_reducible rfl
                    rotate_left
                    · simp only [Act.put, List.setIfInBounds_toArray, List.set_cons_zero, List.set_cons_succ, i64_w, i32_w]
                      rfl
                    refine pure_ (i := 13) (N := some 43) (v := ?_) (a' := ?_) #[true, true, false, true, true, false, true, true, false, true, true, false, true, true, false, false, false, false] rfl rfl (any_of HT_.out (by kernel_rfl)) (fun _ _ _ h => h) (Or.inl ⟨by rfl, ?_⟩) ?_ ?_
                    rotate_left
                    · intro w'
                      go_simp
                      with_reducible rfl
                    rotate_left
                    · simp only [Act.put, List.setIfInBounds_toArray, List.set_cons_zero, List.set_cons_succ, i64_w, i32_w]
                      rfl
                    refine take_ (i := 2) (N := some 32) (v := ?_) (a' := ?_) #[true, true, true, true, true, false, true, true, false, true, true, false, true, true, false, false, false, false] rfl rfl (take_ofW HT_.out HW_.out (by kernel_rfl)) (fun _ _ _ h => h) (Or.inl ⟨by rfl, ?_⟩) hHeld ?_ ?_
                    rotate_left
                    · rintro w' ⟨s0, s1, s2, s3, s4⟩
                      go_simp
                      with_reducible rfl
                    rotate_left
                    · simp only [Act.put, List.setIfInBounds_toArray, List.set_cons_zero, List.set_cons_succ, i64_w, i32_w]
                      rfl
                    refine take_ (i := 5) (N := some 35) (v := ?_) (a' := ?_) #[true, true, true, true, true, true, true, true, false, true, true, false, true, true, false, false, false, false] rfl rfl (take_ofW HT_.out HW_.out (by kernel_rfl)) (fun _ _ _ h => h) (Or.inl ⟨by rfl, ?_⟩) hHeld ?_ ?_
                    rotate_left
                    · rintro w' ⟨s0, s1, s2, s3, s4⟩
                      go_simp
                      with_reducible rfl
                    rotate_left
                    · simp only [Act.put, List.setIfInBounds_toArray, List.set_cons_zero, List.set_cons_succ, i64_w, i32_w]
                      rfl
                    refine take_ (i := 8) (N := some 38) (v := ?_) (a' := ?_) #[true, true, true, true, true, true, true, true, true, true, true, false, true, true, false, false, false, false] rfl rfl (take_ofW HT_.out HW_.out (by kernel_rfl)) (fun _ _ _ h => h) (Or.inl ⟨by rfl, ?_⟩) hHeld ?_ ?_
                    rotate_left
                    · rintro w' ⟨s0, s1, s2, s3, s4⟩
                      go_simp
                      with_reducible rfl
                    rotate_left
                    · simp only [Act.put, List.setIfInBounds_toArray, List.set_cons_zero, List.set_cons_succ, i64_w, i32_w]
                      rfl
                    refine take_ (i := 11) (N := some 41) (v := ?_) (a' := ?_) #[true, true, true, true, true, true, true, true, true, true, true, true, true, true, false, false, false, false] rfl rfl (take_ofW HT_.out HW_.out (by kernel_rfl)) (fun _ _ _ h => h) (Or.inl ⟨by rfl, ?_⟩) hHeld ?_ ?_
                    rotate_left
                    · rintro w' ⟨s0, s1, s2, s3, s4⟩
                      go_simp
                      with_reducible rfl
                    rotate_left
                    · simp only [Act.put, List.setIfInBounds_toArray, List.set_cons_zero, List.set_cons_succ, i64_w, i32_w]
                      rfl
                    refine take_ (i := 14) (N := some 44) (v := ?_) (a' := ?_) #[true, true, true, true, true, true, true, true, true, true, true, true, true, true, true, false, false, false] rfl rfl (take_ofW HT_.out HW_.out (by kernel_rfl)) (fun _ _ _ h => h) (Or.inl ⟨by rfl, ?_⟩) hHeld ?_ ?_
                    rotate_left
                    · rintro w' ⟨s0, s1, s2, s3, s4⟩
                      go_simp
                      with_reducible rfl
                    rotate_left
                    · simp only [Act.put, List.setIfInBounds_toArray, List.set_cons_zero, List.set_cons_succ, i64_w, i32_w]
                      rfl
                    refine pure_ (i := 15) (N := some 45) (v := ?_) (a' := ?_) #[true, true, true, true, true, true, true, true, true, true, true, true, true, true, true, true, false, false] rfl rfl (any_of HT_.out (by kernel_rfl)) (fun _ _ _ h => h) (Or.inl ⟨by rfl, ?_⟩) ?_ ?_
                    rotate_left
                    · intro w'
                      go_simp
                      with_reducible rfl
                    rotate_left
                    · simp only [Act.put, List.setIfInBounds_toArray, List.set_cons_zero, List.set_cons_succ, i64_w, i32_w]
                      rfl
                    refine one_ (i := 16) (N := some 8) #[true, true, true, true, true, true, true, true, true, true, true, true, true, true, true, true, true, false] rfl rfl (one_of HT_.out (by kernel_rfl)) (by decide) (fun K hK => ?_)
                    refine box_step ?hg (N := 8) ?hd (cs := #[.int .i64 0, .int .i64 0, .int .i64 0, .int .i64 0, .int .i64 0]) (t := 23) ?hr ?_; (case hd => rfl); (case hg => rfl); (case hr => first | (go_simp; done) | (go_simp; rfl))
                    intro gb326 hg w34 hbox hb
                    have HS0_ := (hb.cell (World.block_lt_of_cell? _ _ (hHeld.1))).trans (hHeld.1)
                    have HS1_ := (hb.cell (World.block_lt_of_cell? _ _ (hHeld.2.1))).trans (hHeld.2.1)
                    have HS2_ := (hb.cell (World.block_lt_of_cell? _ _ (hHeld.2.2.1))).trans (hHeld.2.2.1)
                    have HS3_ := (hb.cell (World.block_lt_of_cell? _ _ (hHeld.2.2.2.1))).trans (hHeld.2.2.2.1)
                    have HS4_ := (hb.cell (World.block_lt_of_cell? _ _ (hHeld.2.2.2.2))).trans (hHeld.2.2.2.2)
                    have n0_ := Aside0.mk (Kd.R_below (by (with_reducible repeat (first | apply Kd.R_alloc | apply Kd.R_drewN | apply Kd.R_drew)); exact HO315.out) hb)
                    have n1_ := Aside0.mk (Kd.R_below (by (with_reducible repeat (first | apply Kd.R_alloc | apply Kd.R_drewN | apply Kd.R_drew)); exact HO320.out) hb)
                    have n2_ := Aside0.mk (blk_below (g := gb310) (o := .cells #[.int .i64 0, .int .i64 0, .int .i64 0, .int .i64 0, .int .i64 0] 23 (0, 0)) (by (with_reducible repeat (first | refine blk_drewN ?_ _ | refine blk_drew ?_ | refine blk_alloc ?_ _)); exact BK310.out) hb)
                    have n3_ := Aside0.mk (blk_below (g := gb311) (o := .cells #[.int .i64 0, .int .i64 0, .int .i64 0, .int .i64 0, .int .i64 0] 23 (0, 0)) (by (with_reducible repeat (first | refine blk_drewN ?_ _ | refine blk_drew ?_ | refine blk_alloc ?_ _)); exact BK311.out) hb)
                    have n4_ := Aside0.mk (below_step (by repeat (first | (with_reducible first | exact HB.out | apply below_alloc | apply pw_below_drewN | apply below_drew1 | refine below_set ?_ GE310.out | refine below_set ?_ GE311.out) | exact HB.out)) hb)
                    have n5_ := Aside0.mk (hbox)
                    have n6_ := Aside0.mk ((by rw [hg]; exact (below_size (by repeat (first | (with_reducible first | exact HB.out | apply below_alloc | apply pw_below_drewN | apply below_drew1 | refine below_set ?_ GE310.out | refine below_set ?_ GE311.out) | exact HB.out))) : w.heap.size ≤ gb326))
                    have n7_ := Aside0.mk ((by rw [hg]; exact (below_size (by repeat (first | (with_reducible first | exact HB.out | apply below_alloc | apply pw_below_drewN | apply below_drew1 | refine below_set ?_ GE310.out | refine below_set ?_ GE311.out) | exact HB.out))) : w.heap.size ≤ gb326))
                    have n8_ := Aside0.mk ((by rw [hg]; exact Nat.ne_of_lt (blk_lt (g := gb310) (o := .cells #[.int .i64 0, .int .i64 0, .int .i64 0, .int .i64 0, .int .i64 0] 23 (0, 0)) (by (with_reducible repeat (first | refine blk_drewN ?_ _ | refine blk_drew ?_ | refine blk_alloc ?_ _)); exact BK310.out)) : gb310 ≠ gb326))
                    have n9_ := Aside0.mk ((by rw [hg]; exact Nat.ne_of_gt (blk_lt (g := gb310) (o := .cells #[.int .i64 0, .int .i64 0, .int .i64 0, .int .i64 0, .int .i64 0] 23 (0, 0)) (by (with_reducible repeat (first | refine blk_drewN ?_ _ | refine blk_drew ?_ | refine blk_alloc ?_ _)); exact BK310.out)) : gb326 ≠ gb310))
                    have n10_ := Aside0.mk ((by rw [hg]; exact Nat.ne_of_lt (blk_lt (g := gb311) (o := .cells #[.int .i64 0, .int .i64 0, .int .i64 0, .int .i64 0, .int .i64 0] 23 (0, 0)) (by (with_reducible repeat (first | refine blk_drewN ?_ _ | refine blk_drew ?_ | refine blk_alloc ?_ _)); exact BK311.out)) : gb311 ≠ gb326))
                    have n11_ := Aside0.mk ((by rw [hg]; exact Nat.ne_of_gt (blk_lt (g := gb311) (o := .cells #[.int .i64 0, .int .i64 0, .int .i64 0, .int .i64 0, .int .i64 0] 23 (0, 0)) (by (with_reducible repeat (first | refine blk_drewN ?_ _ | refine blk_drew ?_ | refine blk_alloc ?_ _)); exact BK311.out)) : gb326 ≠ gb311))
                    clear HO315
                    clear HO320
                    clear BK310
                    clear BK311
                    clear HB
                    have HO315 := n0_
                    have HO320 := n1_
                    have BK310 := n2_
                    have BK311 := n3_
                    have HB := n4_
                    have BK326 := n5_
                    have GW326 := n6_
                    have GE326 := n7_
                    have NB310_326 := n8_
                    have NB326_310 := n9_
                    have NB311_326 := n10_
                    have NB326_311 := n11_
                    clear n0_ n1_ n2_ n3_ n4_ n5_ n6_ n7_ n8_ n9_ n10_ n11_
                    clear hb hbox hg
                    refine hK.out _ _ ⟨HS0_, HS1_, HS2_, HS3_, HS4_⟩ (fun hHeld => ?_)
                    clear hK K
                    refine norm_ (a' := ?_) ?_ ?_
                    rotate_left
                    · show Act.put _ (some 8) _ = _
                      simp only [Act.put, List.setIfInBounds_toArray, List.set_cons_zero, List.set_cons_succ, i64_w, i32_w]
                      rfl
                    refine one_ (i := 17) (N := none) #[true, true, true, true, true, true, true, true, true, true, true, true, true, true, true, true, true, true] rfl rfl (one_of HT_.out (by kernel_rfl)) (by decide) (fun K hK => ?_)
                    have hs35 : w34.cell? ⟨gb326, 0, none⟩ = some (.int .i64 0) := (blk_cell BK326.out 0).trans rfl
                    have hfs35 := blk_frozen BK326.out 0
                    have hns35_0 := NB310_326.out
                    have hns35_1 := NB311_326.out
                    have hms35_0 := NB326_310.out
                    have hms35_1 := NB326_311.out
                    have hs36 : w34.cell? ⟨gb326, 1, none⟩ = some (.int .i64 0) := (blk_cell BK326.out 1).trans rfl
                    have hfs36 := blk_frozen BK326.out 1
                    have hns36_0 := NB310_326.out
                    have hns36_1 := NB311_326.out
                    have hms36_0 := NB326_310.out
                    have hms36_1 := NB326_311.out
                    have hs37 : w34.cell? ⟨gb326, 2, none⟩ = some (.int .i64 0) := (blk_cell BK326.out 2).trans rfl
                    have hfs37 := blk_frozen BK326.out 2
                    have hns37_0 := NB310_326.out
                    have hns37_1 := NB311_326.out
                    have hms37_0 := NB326_310.out
                    have hms37_1 := NB326_311.out
                    have hs38 : w34.cell? ⟨gb326, 3, none⟩ = some (.int .i64 0) := (blk_cell BK326.out 3).trans rfl
                    have hfs38 := blk_frozen BK326.out 3
                    have hns38_0 := NB310_326.out
                    have hns38_1 := NB311_326.out
                    have hms38_0 := NB326_310.out
                    have hms38_1 := NB326_311.out
                    have hs39 : w34.cell? ⟨gb326, 4, none⟩ = some (.int .i64 0) := (blk_cell BK326.out 4).trans rfl
                    have hfs39 := blk_frozen BK326.out 4
                    have hns39_0 := NB310_326.out
                    have hns39_1 := NB311_326.out
                    have hms39_0 := NB326_310.out
                    have hms39_1 := NB326_311.out
                    refine skip_ (w1 := ?_) (by rfl) rfl ?_ ?_
                    rotate_left
                    · go_simp
                      rfl
                    refine hK.out _ _ ⟨((cell_far (p := ⟨gb326, _, none⟩) (by first | exact Kd.own_blk (Kd.R_ne HO320.out BK326.out (by decide)) | (rw [add_block]; exact Kd.own_blk (Kd.R_ne HO320.out BK326.out (by decide))) | (show (Addr.add _ _).block ≠ _; rw [add_block]; exact Kd.own_blk (Kd.R_ne HO320.out BK326.out (by decide))) | (dsimp only; exact Kd.own_blk (Kd.R_ne HO320.out BK326.out (by decide)))) _).trans (((cell_far (p := ⟨gb326, _, none⟩) (by first | exact Kd.own_blk (Kd.R_ne HO320.out BK326.out (by decide)) | (rw [add_block]; exact Kd.own_blk (Kd.R_ne HO320.out BK326.out (by decide))) | (show (Addr.add _ _).block ≠ _; rw [add_block]; exact Kd.own_blk (Kd.R_ne HO320.out BK326.out (by decide))) | (dsimp only; exact Kd.own_blk (Kd.R_ne HO320.out BK326.out (by decide)))) _).trans (((cell_far (p := ⟨gb326, _, none⟩) (by first | exact Kd.own_blk (Kd.R_ne HO320.out BK326.out (by decide)) | (rw [add_block]; exact Kd.own_blk (Kd.R_ne HO320.out BK326.out (by decide))) | (show (Addr.add _ _).block ≠ _; rw [add_block]; exact Kd.own_blk (Kd.R_ne HO320.out BK326.out (by decide))) | (dsimp only; exact Kd.own_blk (Kd.R_ne HO320.out BK326.out (by decide)))) _).trans (((cell_far (p := ⟨gb326, _, none⟩) (by first | exact Kd.own_blk (Kd.R_ne HO320.out BK326.out (by decide)) | (rw [add_block]; exact Kd.own_blk (Kd.R_ne HO320.out BK326.out (by decide))) | (show (Addr.add _ _).block ≠ _; rw [add_block]; exact Kd.own_blk (Kd.R_ne HO320.out BK326.out (by decide))) | (dsimp only; exact Kd.own_blk (Kd.R_ne HO320.out BK326.out (by decide)))) _).trans (((cell_far (p := ⟨gb326, _, none⟩) (by first | exact Kd.own_blk (Kd.R_ne HO320.out BK326.out (by decide)) | (rw [add_block]; exact Kd.own_blk (Kd.R_ne HO320.out BK326.out (by decide))) | (show (Addr.add _ _).block ≠ _; rw [add_block]; exact Kd.own_blk (Kd.R_ne HO320.out BK326.out (by decide))) | (dsimp only; exact Kd.own_blk (Kd.R_ne HO320.out BK326.out (by decide)))) _).trans (hHeld.1)))))))))), ((cell_far (p := ⟨gb326, _, none⟩) (by first | exact Kd.own_blk (Kd.R_ne HO320.out BK326.out (by decide)) | (rw [add_block]; exact Kd.own_blk (Kd.R_ne HO320.out BK326.out (by decide))) | (show (Addr.add _ _).block ≠ _; rw [add_block]; exact Kd.own_blk (Kd.R_ne HO320.out BK326.out (by decide))) | (dsimp only; exact Kd.own_blk (Kd.R_ne HO320.out BK326.out (by decide)))) _).trans (((cell_far (p := ⟨gb326, _, none⟩) (by first | exact Kd.own_blk (Kd.R_ne HO320.out BK326.out (by decide)) | (rw [add_block]; exact Kd.own_blk (Kd.R_ne HO320.out BK326.out (by decide))) | (show (Addr.add _ _).block ≠ _; rw [add_block]; exact Kd.own_blk (Kd.R_ne HO320.out BK326.out (by decide))) | (dsimp only; exact Kd.own_blk (Kd.R_ne HO320.out BK326.out (by decide)))) _).trans (((cell_far (p := ⟨gb326, _, none⟩) (by first | exact Kd.own_blk (Kd.R_ne HO320.out BK326.out (by decide)) | (rw [add_block]; exact Kd.own_blk (Kd.R_ne HO320.out BK326.out (by decide))) | (show (Addr.add _ _).block ≠ _; rw [add_block]; exact Kd.own_blk (Kd.R_ne HO320.out BK326.out (by decide))) | (dsimp only; exact Kd.own_blk (Kd.R_ne HO320.out BK326.out (by decide)))) _).trans (((cell_far (p := ⟨gb326, _, none⟩) (by first | exact Kd.own_blk (Kd.R_ne HO320.out BK326.out (by decide)) | (rw [add_block]; exact Kd.own_blk (Kd.R_ne HO320.out BK326.out (by decide))) | (show (Addr.add _ _).block ≠ _; rw [add_block]; exact Kd.own_blk (Kd.R_ne HO320.out BK326.out (by decide))) | (dsimp only; exact Kd.own_blk (Kd.R_ne HO320.out BK326.out (by decide)))) _).trans (((cell_far (p := ⟨gb326, _, none⟩) (by first | exact Kd.own_blk (Kd.R_ne HO320.out BK326.out (by decide)) | (rw [add_block]; exact Kd.own_blk (Kd.R_ne HO320.out BK326.out (by decide))) | (show (Addr.add _ _).block ≠ _; rw [add_block]; exact Kd.own_blk (Kd.R_ne HO320.out BK326.out (by decide))) | (dsimp only; exact Kd.own_blk (Kd.R_ne HO320.out BK326.out (by decide)))) _).trans (hHeld.2.1)))))))))), ((cell_far (p := ⟨gb326, _, none⟩) (by first | exact Kd.own_blk (Kd.R_ne HO320.out BK326.out (by decide)) | (rw [add_block]; exact Kd.own_blk (Kd.R_ne HO320.out BK326.out (by decide))) | (show (Addr.add _ _).block ≠ _; rw [add_block]; exact Kd.own_blk (Kd.R_ne HO320.out BK326.out (by decide))) | (dsimp only; exact Kd.own_blk (Kd.R_ne HO320.out BK326.out (by decide)))) _).trans (((cell_far (p := ⟨gb326, _, none⟩) (by first | exact Kd.own_blk (Kd.R_ne HO320.out BK326.out (by decide)) | (rw [add_block]; exact Kd.own_blk (Kd.R_ne HO320.out BK326.out (by decide))) | (show (Addr.add _ _).block ≠ _; rw [add_block]; exact Kd.own_blk (Kd.R_ne HO320.out BK326.out (by decide))) | (dsimp only; exact Kd.own_blk (Kd.R_ne HO320.out BK326.out (by decide)))) _).trans (((cell_far (p := ⟨gb326, _, none⟩) (by first | exact Kd.own_blk (Kd.R_ne HO320.out BK326.out (by decide)) | (rw [add_block]; exact Kd.own_blk (Kd.R_ne HO320.out BK326.out (by decide))) | (show (Addr.add _ _).block ≠ _; rw [add_block]; exact Kd.own_blk (Kd.R_ne HO320.out BK326.out (by decide))) | (dsimp only; exact Kd.own_blk (Kd.R_ne HO320.out BK326.out (by decide)))) _).trans (((cell_far (p := ⟨gb326, _, none⟩) (by first | exact Kd.own_blk (Kd.R_ne HO320.out BK326.out (by decide)) | (rw [add_block]; exact Kd.own_blk (Kd.R_ne HO320.out BK326.out (by decide))) | (show (Addr.add _ _).block ≠ _; rw [add_block]; exact Kd.own_blk (Kd.R_ne HO320.out BK326.out (by decide))) | (dsimp only; exact Kd.own_blk (Kd.R_ne HO320.out BK326.out (by decide)))) _).trans (((cell_far (p := ⟨gb326, _, none⟩) (by first | exact Kd.own_blk (Kd.R_ne HO320.out BK326.out (by decide)) | (rw [add_block]; exact Kd.own_blk (Kd.R_ne HO320.out BK326.out (by decide))) | (show (Addr.add _ _).block ≠ _; rw [add_block]; exact Kd.own_blk (Kd.R_ne HO320.out BK326.out (by decide))) | (dsimp only; exact Kd.own_blk (Kd.R_ne HO320.out BK326.out (by decide)))) _).trans (hHeld.2.2.1)))))))))), ((cell_far (p := ⟨gb326, _, none⟩) (by first | exact Kd.own_blk (Kd.R_ne HO320.out BK326.out (by decide)) | (rw [add_block]; exact Kd.own_blk (Kd.R_ne HO320.out BK326.out (by decide))) | (show (Addr.add _ _).block ≠ _; rw [add_block]; exact Kd.own_blk (Kd.R_ne HO320.out BK326.out (by decide))) | (dsimp only; exact Kd.own_blk (Kd.R_ne HO320.out BK326.out (by decide)))) _).trans (((cell_far (p := ⟨gb326, _, none⟩) (by first | exact Kd.own_blk (Kd.R_ne HO320.out BK326.out (by decide)) | (rw [add_block]; exact Kd.own_blk (Kd.R_ne HO320.out BK326.out (by decide))) | (show (Addr.add _ _).block ≠ _; rw [add_block]; exact Kd.own_blk (Kd.R_ne HO320.out BK326.out (by decide))) | (dsimp only; exact Kd.own_blk (Kd.R_ne HO320.out BK326.out (by decide)))) _).trans (((cell_far (p := ⟨gb326, _, none⟩) (by first | exact Kd.own_blk (Kd.R_ne HO320.out BK326.out (by decide)) | (rw [add_block]; exact Kd.own_blk (Kd.R_ne HO320.out BK326.out (by decide))) | (show (Addr.add _ _).block ≠ _; rw [add_block]; exact Kd.own_blk (Kd.R_ne HO320.out BK326.out (by decide))) | (dsimp only; exact Kd.own_blk (Kd.R_ne HO320.out BK326.out (by decide)))) _).trans (((cell_far (p := ⟨gb326, _, none⟩) (by first | exact Kd.own_blk (Kd.R_ne HO320.out BK326.out (by decide)) | (rw [add_block]; exact Kd.own_blk (Kd.R_ne HO320.out BK326.out (by decide))) | (show (Addr.add _ _).block ≠ _; rw [add_block]; exact Kd.own_blk (Kd.R_ne HO320.out BK326.out (by decide))) | (dsimp only; exact Kd.own_blk (Kd.R_ne HO320.out BK326.out (by decide)))) _).trans (((cell_far (p := ⟨gb326, _, none⟩) (by first | exact Kd.own_blk (Kd.R_ne HO320.out BK326.out (by decide)) | (rw [add_block]; exact Kd.own_blk (Kd.R_ne HO320.out BK326.out (by decide))) | (show (Addr.add _ _).block ≠ _; rw [add_block]; exact Kd.own_blk (Kd.R_ne HO320.out BK326.out (by decide))) | (dsimp only; exact Kd.own_blk (Kd.R_ne HO320.out BK326.out (by decide)))) _).trans (hHeld.2.2.2.1)))))))))), ((cell_far (p := ⟨gb326, _, none⟩) (by first | exact Kd.own_blk (Kd.R_ne HO320.out BK326.out (by decide)) | (rw [add_block]; exact Kd.own_blk (Kd.R_ne HO320.out BK326.out (by decide))) | (show (Addr.add _ _).block ≠ _; rw [add_block]; exact Kd.own_blk (Kd.R_ne HO320.out BK326.out (by decide))) | (dsimp only; exact Kd.own_blk (Kd.R_ne HO320.out BK326.out (by decide)))) _).trans (((cell_far (p := ⟨gb326, _, none⟩) (by first | exact Kd.own_blk (Kd.R_ne HO320.out BK326.out (by decide)) | (rw [add_block]; exact Kd.own_blk (Kd.R_ne HO320.out BK326.out (by decide))) | (show (Addr.add _ _).block ≠ _; rw [add_block]; exact Kd.own_blk (Kd.R_ne HO320.out BK326.out (by decide))) | (dsimp only; exact Kd.own_blk (Kd.R_ne HO320.out BK326.out (by decide)))) _).trans (((cell_far (p := ⟨gb326, _, none⟩) (by first | exact Kd.own_blk (Kd.R_ne HO320.out BK326.out (by decide)) | (rw [add_block]; exact Kd.own_blk (Kd.R_ne HO320.out BK326.out (by decide))) | (show (Addr.add _ _).block ≠ _; rw [add_block]; exact Kd.own_blk (Kd.R_ne HO320.out BK326.out (by decide))) | (dsimp only; exact Kd.own_blk (Kd.R_ne HO320.out BK326.out (by decide)))) _).trans (((cell_far (p := ⟨gb326, _, none⟩) (by first | exact Kd.own_blk (Kd.R_ne HO320.out BK326.out (by decide)) | (rw [add_block]; exact Kd.own_blk (Kd.R_ne HO320.out BK326.out (by decide))) | (show (Addr.add _ _).block ≠ _; rw [add_block]; exact Kd.own_blk (Kd.R_ne HO320.out BK326.out (by decide))) | (dsimp only; exact Kd.own_blk (Kd.R_ne HO320.out BK326.out (by decide)))) _).trans (((cell_far (p := ⟨gb326, _, none⟩) (by first | exact Kd.own_blk (Kd.R_ne HO320.out BK326.out (by decide)) | (rw [add_block]; exact Kd.own_blk (Kd.R_ne HO320.out BK326.out (by decide))) | (show (Addr.add _ _).block ≠ _; rw [add_block]; exact Kd.own_blk (Kd.R_ne HO320.out BK326.out (by decide))) | (dsimp only; exact Kd.own_blk (Kd.R_ne HO320.out BK326.out (by decide)))) _).trans (hHeld.2.2.2.2))))))))))⟩ (fun hHeld => ?_)
                    clear hK K
                    refine done_ (done_of HT_.out (by kernel_rfl)) ?_
                    have hnb40 := NB326_310.out
                    have hnc40 := NB310_326.out
                    have hnb41 := NB326_311.out
                    have hnc41 := NB311_326.out
                    have hcz42_0 : w34.cell? ⟨gb326, 0, none⟩ = some (.int .i64 0) := (blk_cell BK326.out 0).trans rfl
                    have hcz42_1 : w34.cell? ⟨gb326, 1, none⟩ = some (.int .i64 0) := (blk_cell BK326.out 1).trans rfl
                    have hcz42_2 : w34.cell? ⟨gb326, 2, none⟩ = some (.int .i64 0) := (blk_cell BK326.out 2).trans rfl
                    have hcz42_3 : w34.cell? ⟨gb326, 3, none⟩ = some (.int .i64 0) := (blk_cell BK326.out 3).trans rfl
                    have hcz42_4 : w34.cell? ⟨gb326, 4, none⟩ = some (.int .i64 0) := (blk_cell BK326.out 4).trans rfl
                    have hfz42_0 := blk_frozen BK326.out 0
                    have hfz42_1 := blk_frozen BK326.out 1
                    have hfz42_2 := blk_frozen BK326.out 2
                    have hfz42_3 := blk_frozen BK326.out 3
                    have hfz42_4 := blk_frozen BK326.out 4
                    try go_wp2_with (first | ((with_reducible refine gate_callee (f := 15) rfl ?_); refine goesL_ (some 47) rfl rfl Tryd.func15 (by kernel_rfl) rfl #[.agg #[.int .i64 (rd t316 0), .int .i64 (rd t316 1), .int .i64 (rd t316 2), .int .i64 (rd t316 3), .int .i64 (rd t316 4)]] rfl (by (try simp only [List.map_toArray, List.map_cons, List.map_nil]); first | done | rfl | (simp only [List.length_drop, List.length_take]; rfl)) ?_; (with_reducible refine (wayfinderref03_May.calls (rd t316 0) (rd t316 1) (rd t316 2) (rd t316 3) (rd t316 4) true _ A22.out).mono ?_); rintro e w43 ⟨rfl, hb⟩; refine ⟨_, rfl, ?_⟩; have n0_ := Aside0.mk (Kd.R_below (by (with_reducible repeat (first | apply Kd.R_alloc | apply Kd.R_drewN | apply Kd.R_drew)); exact (Kd.R_mono (Kd.R_far (p := ⟨gb326, 4, none⟩) (Kd.R_far (p := ⟨gb326, 3, none⟩) (Kd.R_far (p := ⟨gb326, 2, none⟩) (Kd.R_far (p := ⟨gb326, 1, none⟩) (Kd.R_far (p := ⟨gb326, 0, none⟩) (Kd.R_types HO315.out BK326.out (by decide)) (fun _ hk => hk.2) (.int .i64 (rd t316 0))) (fun _ hk => hk.2) (.int .i64 (rd t316 1))) (fun _ hk => hk.2) (.int .i64 (rd t316 2))) (fun _ hk => hk.2) (.int .i64 (rd t316 3))) (fun _ hk => hk.2) (.int .i64 (rd t316 4))) (fun _ h_ => h_.1))) hb); have n1_ := Aside0.mk (Kd.R_below (by (with_reducible repeat (first | apply Kd.R_alloc | apply Kd.R_drewN | apply Kd.R_drew)); exact (Kd.R_mono (Kd.R_far (p := ⟨gb326, 4, none⟩) (Kd.R_far (p := ⟨gb326, 3, none⟩) (Kd.R_far (p := ⟨gb326, 2, none⟩) (Kd.R_far (p := ⟨gb326, 1, none⟩) (Kd.R_far (p := ⟨gb326, 0, none⟩) (Kd.R_types HO320.out BK326.out (by decide)) (fun _ hk => hk.2) (.int .i64 (rd t316 0))) (fun _ hk => hk.2) (.int .i64 (rd t316 1))) (fun _ hk => hk.2) (.int .i64 (rd t316 2))) (fun _ hk => hk.2) (.int .i64 (rd t316 3))) (fun _ hk => hk.2) (.int .i64 (rd t316 4))) (fun _ h_ => h_.1))) hb); have n2_ := Aside0.mk (blk_below (g := gb310) (o := .cells #[.int .i64 0, .int .i64 0, .int .i64 0, .int .i64 0, .int .i64 0] 23 (0, 0)) (by (with_reducible repeat (first | refine blk_drewN ?_ _ | refine blk_drew ?_ | refine blk_alloc ?_ _)); refine blk_far ?_ NB310_326.out _; (with_reducible repeat (first | refine blk_drewN ?_ _ | refine blk_drew ?_ | refine blk_alloc ?_ _)); refine blk_far ?_ NB310_326.out _; (with_reducible repeat (first | refine blk_drewN ?_ _ | refine blk_drew ?_ | refine blk_alloc ?_ _)); refine blk_far ?_ NB310_326.out _; (with_reducible repeat (first | refine blk_drewN ?_ _ | refine blk_drew ?_ | refine blk_alloc ?_ _)); refine blk_far ?_ NB310_326.out _; (with_reducible repeat (first | refine blk_drewN ?_ _ | refine blk_drew ?_ | refine blk_alloc ?_ _)); refine blk_far ?_ NB310_326.out _; (with_reducible repeat (first | refine blk_drewN ?_ _ | refine blk_drew ?_ | refine blk_alloc ?_ _)); exact BK310.out) hb); have n3_ := Aside0.mk (blk_below (g := gb311) (o := .cells #[.int .i64 0, .int .i64 0, .int .i64 0, .int .i64 0, .int .i64 0] 23 (0, 0)) (by (with_reducible repeat (first | refine blk_drewN ?_ _ | refine blk_drew ?_ | refine blk_alloc ?_ _)); refine blk_far ?_ NB311_326.out _; (with_reducible repeat (first | refine blk_drewN ?_ _ | refine blk_drew ?_ | refine blk_alloc ?_ _)); refine blk_far ?_ NB311_326.out _; (with_reducible repeat (first | refine blk_drewN ?_ _ | refine blk_drew ?_ | refine blk_alloc ?_ _)); refine blk_far ?_ NB311_326.out _; (with_reducible repeat (first | refine blk_drewN ?_ _ | refine blk_drew ?_ | refine blk_alloc ?_ _)); refine blk_far ?_ NB311_326.out _; (with_reducible repeat (first | refine blk_drewN ?_ _ | refine blk_drew ?_ | refine blk_alloc ?_ _)); refine blk_far ?_ NB311_326.out _; (with_reducible repeat (first | refine blk_drewN ?_ _ | refine blk_drew ?_ | refine blk_alloc ?_ _)); exact BK311.out) hb); have n4_ := Aside0.mk (blk_below (g := gb326) (o := .cells #[.int .i64 (rd t316 0), .int .i64 (rd t316 1), .int .i64 (rd t316 2), .int .i64 (rd t316 3), .int .i64 (rd t316 4)] 23 (0, 0)) (by (with_reducible repeat (first | refine blk_drewN ?_ _ | refine blk_drew ?_ | refine blk_alloc ?_ _)); refine blk_put (cs := #[.int .i64 (rd t316 0), .int .i64 (rd t316 1), .int .i64 (rd t316 2), .int .i64 (rd t316 3), .int .i64 0]) ?_ 4 _ rfl; (with_reducible repeat (first | refine blk_drewN ?_ _ | refine blk_drew ?_ | refine blk_alloc ?_ _)); refine blk_put (cs := #[.int .i64 (rd t316 0), .int .i64 (rd t316 1), .int .i64 (rd t316 2), .int .i64 0, .int .i64 0]) ?_ 3 _ rfl; (with_reducible repeat (first | refine blk_drewN ?_ _ | refine blk_drew ?_ | refine blk_alloc ?_ _)); refine blk_put (cs := #[.int .i64 (rd t316 0), .int .i64 (rd t316 1), .int .i64 0, .int .i64 0, .int .i64 0]) ?_ 2 _ rfl; (with_reducible repeat (first | refine blk_drewN ?_ _ | refine blk_drew ?_ | refine blk_alloc ?_ _)); refine blk_put (cs := #[.int .i64 (rd t316 0), .int .i64 0, .int .i64 0, .int .i64 0, .int .i64 0]) ?_ 1 _ rfl; (with_reducible repeat (first | refine blk_drewN ?_ _ | refine blk_drew ?_ | refine blk_alloc ?_ _)); refine blk_put (cs := #[.int .i64 0, .int .i64 0, .int .i64 0, .int .i64 0, .int .i64 0]) ?_ 0 _ rfl; (with_reducible repeat (first | refine blk_drewN ?_ _ | refine blk_drew ?_ | refine blk_alloc ?_ _)); exact BK326.out) hb); have n5_ := Aside0.mk (below_step (by repeat (first | (with_reducible first | exact HB.out | apply below_alloc | apply pw_below_drewN | apply below_drew1 | refine below_set ?_ GE310.out | refine below_set ?_ GE311.out | refine below_set ?_ GE326.out) | exact HB.out)) hb); clear HO315; clear HO320; clear BK310; clear BK311; clear BK326; clear HB; have HO315 := n0_; have HO320 := n1_; have BK310 := n2_; have BK311 := n3_; have BK326 := n4_; have HB := n5_; clear n0_ n1_ n2_ n3_ n4_ n5_; (try clear hb); (try clear hb2); (try clear hk); (try clear hi); have hcz44_0 : w43.cell? ⟨gb326, 0, none⟩ = some (.int .i64 (rd t316 0)) := (blk_cell BK326.out 0).trans rfl; have hcz44_1 : w43.cell? ⟨gb326, 1, none⟩ = some (.int .i64 (rd t316 1)) := (blk_cell BK326.out 1).trans rfl; have hcz44_2 : w43.cell? ⟨gb326, 2, none⟩ = some (.int .i64 (rd t316 2)) := (blk_cell BK326.out 2).trans rfl; have hcz44_3 : w43.cell? ⟨gb326, 3, none⟩ = some (.int .i64 (rd t316 3)) := (blk_cell BK326.out 3).trans rfl; have hcz44_4 : w43.cell? ⟨gb326, 4, none⟩ = some (.int .i64 (rd t316 4)) := (blk_cell BK326.out 4).trans rfl; have hfz44_0 := blk_frozen BK326.out 0; have hfz44_1 := blk_frozen BK326.out 1; have hfz44_2 := blk_frozen BK326.out 2; have hfz44_3 := blk_frozen BK326.out 3; have hfz44_4 := blk_frozen BK326.out 4; have hcz45_0 : w43.cell? ⟨gb310, 0, none⟩ = some (.int .i64 0) := (blk_cell BK310.out 0).trans rfl; have hcz45_1 : w43.cell? ⟨gb310, 1, none⟩ = some (.int .i64 0) := (blk_cell BK310.out 1).trans rfl; have hcz45_2 : w43.cell? ⟨gb310, 2, none⟩ = some (.int .i64 0) := (blk_cell BK310.out 2).trans rfl; have hcz45_3 : w43.cell? ⟨gb310, 3, none⟩ = some (.int .i64 0) := (blk_cell BK310.out 3).trans rfl; have hcz45_4 : w43.cell? ⟨gb310, 4, none⟩ = some (.int .i64 0) := (blk_cell BK310.out 4).trans rfl; have hfz45_0 := blk_frozen BK310.out 0; have hfz45_1 := blk_frozen BK310.out 1; have hfz45_2 := blk_frozen BK310.out 2; have hfz45_3 := blk_frozen BK310.out 3; have hfz45_4 := blk_frozen BK310.out 4))
                    refine bodyPost_ret (results_ct rfl _ _ gb310 23 #[.int .i64 (rd t316 0), .int .i64 (rd t316 1), .int .i64 (rd t316 2), .int .i64 (rd t316 3), .int .i64 (rd t316 4)] (0, 0) _ rfl (by (with_reducible repeat (first | refine blk_drewN ?_ _ | refine blk_drew ?_ | refine blk_alloc ?_ _)); refine blk_put (cs := #[.int .i64 (rd t316 0), .int .i64 (rd t316 1), .int .i64 (rd t316 2), .int .i64 (rd t316 3), .int .i64 0]) ?_ 4 _ rfl; (with_reducible repeat (first | refine blk_drewN ?_ _ | refine blk_drew ?_ | refine blk_alloc ?_ _)); refine blk_put (cs := #[.int .i64 (rd t316 0), .int .i64 (rd t316 1), .int .i64 (rd t316 2), .int .i64 0, .int .i64 0]) ?_ 3 _ rfl; (with_reducible repeat (first | refine blk_drewN ?_ _ | refine blk_drew ?_ | refine blk_alloc ?_ _)); refine blk_put (cs := #[.int .i64 (rd t316 0), .int .i64 (rd t316 1), .int .i64 0, .int .i64 0, .int .i64 0]) ?_ 2 _ rfl; (with_reducible repeat (first | refine blk_drewN ?_ _ | refine blk_drew ?_ | refine blk_alloc ?_ _)); refine blk_put (cs := #[.int .i64 (rd t316 0), .int .i64 0, .int .i64 0, .int .i64 0, .int .i64 0]) ?_ 1 _ rfl; (with_reducible repeat (first | refine blk_drewN ?_ _ | refine blk_drew ?_ | refine blk_alloc ?_ _)); refine blk_put (cs := #[.int .i64 0, .int .i64 0, .int .i64 0, .int .i64 0, .int .i64 0]) ?_ 0 _ rfl; (with_reducible repeat (first | refine blk_drewN ?_ _ | refine blk_drew ?_ | refine blk_alloc ?_ _)); exact BK310.out) Tryd.underlying23 rfl (by kernel_rfl)) rfl ?_
                    exact ⟨by first | rfl | (simp [errW_none, errW_some] <;> rfl) | (simp [*, errW_none, errW_some] <;> rfl), by repeat (first | (with_reducible first | exact HB.out | apply below_alloc | apply pw_below_drewN | apply below_drew1 | refine below_set ?_ GE310.out | refine below_set ?_ GE311.out | refine below_set ?_ GE326.out) | exact HB.out)⟩
                  · replace c23 := Bool.eq_false_iff.mpr c23
                    subst c23
                    have H1 : (some (0, 0, 0, 0, 0, 2)) = some (r1, r2, r3, r4, r5, r6) := by rw [if_neg (show ¬ (false = true) by decide)] at H; exact H
                    clear H
                    have H := H1
                    clear H1
                    simp only [Option.some.injEq, Prod.mk.injEq] at H
                    obtain ⟨rfl, rfl, rfl, rfl, rfl, rfl⟩ := H
                    go_enter Tryd.func14, Tryd.ntmps14
                    try go_wp2_with (first | ((with_reducible refine gate_dst (N := 2) rfl ?_); refine box_event ?hg (N := 2) ?hd (cs := #[.int .i64 0, .int .i64 0, .int .i64 0, .int .i64 0, .int .i64 0]) (t := 23) ?hr ?_; (case hd => rfl); (case hg => rfl); (case hr => first | (go_simp; done) | (go_simp; rfl)); intro gb310 hg w46 hbox hb; have n0_ := Aside0.mk (below_step (by repeat (first | (with_reducible first | exact HB.out | apply below_alloc | apply pw_below_drewN | apply below_drew1) | exact HB.out)) hb); have n1_ := Aside0.mk (hbox); have n2_ := Aside0.mk ((by rw [hg]; exact (below_size (by repeat (first | (with_reducible first | exact HB.out | apply below_alloc | apply pw_below_drewN | apply below_drew1) | exact HB.out))) : w.heap.size ≤ gb310)); have n3_ := Aside0.mk ((by rw [hg]; exact (below_size (by repeat (first | (with_reducible first | exact HB.out | apply below_alloc | apply pw_below_drewN | apply below_drew1) | exact HB.out))) : w.heap.size ≤ gb310)); clear HB; have HB := n0_; have BK310 := n1_; have GW310 := n2_; have GE310 := n3_; clear n0_ n1_ n2_ n3_; clear hb hbox hg) | ((with_reducible refine gate_dst (N := 4) rfl ?_); refine box_event ?hg (N := 4) ?hd (cs := #[.int .i64 0, .int .i64 0, .int .i64 0, .int .i64 0, .int .i64 0]) (t := 23) ?hr ?_; (case hd => rfl); (case hg => rfl); (case hr => first | (go_simp; done) | (go_simp; rfl)); intro gb311 hg w47 hbox hb; have n0_ := Aside0.mk (blk_below (g := gb310) (o := .cells #[.int .i64 0, .int .i64 0, .int .i64 0, .int .i64 0, .int .i64 0] 23 (0, 0)) (by (with_reducible repeat (first | refine blk_drewN ?_ _ | refine blk_drew ?_ | refine blk_alloc ?_ _)); exact BK310.out) hb); have n1_ := Aside0.mk (below_step (by repeat (first | (with_reducible first | exact HB.out | apply below_alloc | apply pw_below_drewN | apply below_drew1 | refine below_set ?_ GE310.out) | exact HB.out)) hb); have n2_ := Aside0.mk (hbox); have n3_ := Aside0.mk ((by rw [hg]; exact (below_size (by repeat (first | (with_reducible first | exact HB.out | apply below_alloc | apply pw_below_drewN | apply below_drew1 | refine below_set ?_ GE310.out) | exact HB.out))) : w.heap.size ≤ gb311)); have n4_ := Aside0.mk ((by rw [hg]; exact (below_size (by repeat (first | (with_reducible first | exact HB.out | apply below_alloc | apply pw_below_drewN | apply below_drew1 | refine below_set ?_ GE310.out) | exact HB.out))) : w.heap.size ≤ gb311)); have n5_ := Aside0.mk ((by rw [hg]; exact Nat.ne_of_lt (blk_lt (g := gb310) (o := .cells #[.int .i64 0, .int .i64 0, .int .i64 0, .int .i64 0, .int .i64 0] 23 (0, 0)) (by (with_reducible repeat (first | refine blk_drewN ?_ _ | refine blk_drew ?_ | refine blk_alloc ?_ _)); exact BK310.out)) : gb310 ≠ gb311)); have n6_ := Aside0.mk ((by rw [hg]; exact Nat.ne_of_gt (blk_lt (g := gb310) (o := .cells #[.int .i64 0, .int .i64 0, .int .i64 0, .int .i64 0, .int .i64 0] 23 (0, 0)) (by (with_reducible repeat (first | refine blk_drewN ?_ _ | refine blk_drew ?_ | refine blk_alloc ?_ _)); exact BK310.out)) : gb311 ≠ gb310)); clear BK310; clear HB; have BK310 := n0_; have HB := n1_; have BK311 := n2_; have GW311 := n3_; have GE311 := n4_; have NB310_311 := n5_; have NB311_310 := n6_; clear n0_ n1_ n2_ n3_ n4_ n5_ n6_; clear hb hbox hg; have hnb48 := NB311_310.out; have hnc48 := NB310_311.out; have hcz49_0 : w47.cell? ⟨gb311, 0, none⟩ = some (.int .i64 0) := (blk_cell BK311.out 0).trans rfl; have hcz49_1 : w47.cell? ⟨gb311, 1, none⟩ = some (.int .i64 0) := (blk_cell BK311.out 1).trans rfl; have hcz49_2 : w47.cell? ⟨gb311, 2, none⟩ = some (.int .i64 0) := (blk_cell BK311.out 2).trans rfl; have hcz49_3 : w47.cell? ⟨gb311, 3, none⟩ = some (.int .i64 0) := (blk_cell BK311.out 3).trans rfl; have hcz49_4 : w47.cell? ⟨gb311, 4, none⟩ = some (.int .i64 0) := (blk_cell BK311.out 4).trans rfl; have hfz49_0 := blk_frozen BK311.out 0; have hfz49_1 := blk_frozen BK311.out 1; have hfz49_2 := blk_frozen BK311.out 2; have hfz49_3 := blk_frozen BK311.out 3; have hfz49_4 := blk_frozen BK311.out 4) | ((with_reducible refine gate_callee (f := 21) rfl ?_); refine goesL_ (some 20) rfl rfl Tryd.func21 (by kernel_rfl) rfl #[.slice A0 l0.length c0] rfl (by (try simp only [List.map_toArray, List.map_cons, List.map_nil]); first | done | rfl | (simp only [List.length_drop, List.length_take]; rfl)) ?_; (with_reducible refine (wayfinderref02_Sum.calls k _ _ l0 t312 _ ?side1 ?side2 A14.out).mono ?_); (case side1 => exact Kd.C_below HR0.out (by repeat (first | (with_reducible first | exact HB.out | apply below_alloc | apply pw_below_drewN | apply below_drew1 | refine below_set ?_ GE310.out | refine below_set ?_ GE311.out) | exact HB.out))); (case side2 => exact HC0.out); rintro e w' ⟨rfl, ⟨nd, rfl⟩⟩; refine ⟨_, rfl, ?_⟩) | ((with_reducible refine gate_dst (N := 25) rfl ?_); refine Kd.R_lit (Kd.int .i64) _ 3 ?hg (N := 25) ?hd (xs := ([4, 4, 4, 2, 2] : List Int)) (inner := [.int .i64 4, .int .i64 4, .int .i64 4, .int .i64 2, .int .i64 2]) (ok := fun _ => True) (okp := fun _ => True) ?hr ?hp (fun _ hk => hk) trivial (Below.refl _ _) (Nat.le_refl _) (by simp) ?_; (case hd => rfl); (case hg => rfl); (case hr => first | (go_simp; done) | (go_simp; rfl)); (case hp => exact (Reps.one (show Kd.M (Kd.int .i64) _ _ _ 4 [.int .i64 4] from rfl) (Reps.one (show Kd.M (Kd.int .i64) _ _ _ 4 [.int .i64 4] from rfl) (Reps.one (show Kd.M (Kd.int .i64) _ _ _ 4 [.int .i64 4] from rfl) (Reps.one (show Kd.M (Kd.int .i64) _ _ _ 2 [.int .i64 2] from rfl) (Reps.one (show Kd.M (Kd.int .i64) _ _ _ 2 [.int .i64 2] from rfl) (Reps.none _ _))))))); intro v314 w50 ho51 hb hg_ hnew_; clear hg_ hnew_; (first | rw [← Ny313.out] at ho51 | (simp only [Int.reduceToNat] at ho51; rw [← Ny313.out] at ho51)); have n0_ := Aside0.mk (Kd.R_lower ho51 (below_size (by repeat (first | (with_reducible first | exact HB.out | apply below_alloc | apply pw_below_drewN | apply below_drew1 | refine below_set ?_ GE310.out | refine below_set ?_ GE311.out) | exact HB.out)))); have n1_ := Aside0.mk (blk_below (g := gb310) (o := .cells #[.int .i64 0, .int .i64 0, .int .i64 0, .int .i64 0, .int .i64 0] 23 (0, 0)) (by (with_reducible repeat (first | refine blk_drewN ?_ _ | refine blk_drew ?_ | refine blk_alloc ?_ _)); refine blk_far ?_ NB310_311.out _; (with_reducible repeat (first | refine blk_drewN ?_ _ | refine blk_drew ?_ | refine blk_alloc ?_ _)); refine blk_far ?_ NB310_311.out _; (with_reducible repeat (first | refine blk_drewN ?_ _ | refine blk_drew ?_ | refine blk_alloc ?_ _)); refine blk_far ?_ NB310_311.out _; (with_reducible repeat (first | refine blk_drewN ?_ _ | refine blk_drew ?_ | refine blk_alloc ?_ _)); refine blk_far ?_ NB310_311.out _; (with_reducible repeat (first | refine blk_drewN ?_ _ | refine blk_drew ?_ | refine blk_alloc ?_ _)); refine blk_far ?_ NB310_311.out _; (with_reducible repeat (first | refine blk_drewN ?_ _ | refine blk_drew ?_ | refine blk_alloc ?_ _)); exact BK310.out) hb); have n2_ := Aside0.mk (blk_below (g := gb311) (o := .cells #[.int .i64 0, .int .i64 0, .int .i64 0, .int .i64 0, .int .i64 0] 23 (0, 0)) (by (with_reducible repeat (first | refine blk_drewN ?_ _ | refine blk_drew ?_ | refine blk_alloc ?_ _)); refine blk_put (cs := #[.int .i64 0, .int .i64 0, .int .i64 0, .int .i64 0, .int .i64 0]) ?_ 4 _ rfl; (with_reducible repeat (first | refine blk_drewN ?_ _ | refine blk_drew ?_ | refine blk_alloc ?_ _)); refine blk_put (cs := #[.int .i64 0, .int .i64 0, .int .i64 0, .int .i64 0, .int .i64 0]) ?_ 3 _ rfl; (with_reducible repeat (first | refine blk_drewN ?_ _ | refine blk_drew ?_ | refine blk_alloc ?_ _)); refine blk_put (cs := #[.int .i64 0, .int .i64 0, .int .i64 0, .int .i64 0, .int .i64 0]) ?_ 2 _ rfl; (with_reducible repeat (first | refine blk_drewN ?_ _ | refine blk_drew ?_ | refine blk_alloc ?_ _)); refine blk_put (cs := #[.int .i64 0, .int .i64 0, .int .i64 0, .int .i64 0, .int .i64 0]) ?_ 1 _ rfl; (with_reducible repeat (first | refine blk_drewN ?_ _ | refine blk_drew ?_ | refine blk_alloc ?_ _)); refine blk_put (cs := #[.int .i64 0, .int .i64 0, .int .i64 0, .int .i64 0, .int .i64 0]) ?_ 0 _ rfl; (with_reducible repeat (first | refine blk_drewN ?_ _ | refine blk_drew ?_ | refine blk_alloc ?_ _)); exact BK311.out) hb); have n3_ := Aside0.mk (below_step (by repeat (first | (with_reducible first | exact HB.out | apply below_alloc | apply pw_below_drewN | apply below_drew1 | refine below_set ?_ GE310.out | refine below_set ?_ GE311.out) | exact HB.out)) hb); clear BK310; clear BK311; clear HB; have HO315 := n0_; have BK310 := n1_; have BK311 := n2_; have HB := n3_; clear n0_ n1_ n2_ n3_; clear hb ho51; obtain ⟨Ao52, co52, eo52⟩ := Kd.R_slice HO315.out; subst eo52) | ((with_reducible refine gate_callee (f := 23) rfl ?_); refine goesL_ (some 26) rfl rfl Tryd.func23 (by kernel_rfl) rfl #[.slice A0 l0.length c0, .slice Ao52 y313.length co52] rfl (by (try simp only [List.map_toArray, List.map_cons, List.map_nil]); first | done | rfl | (simp only [List.length_drop, List.length_take]; rfl)) ?_; (with_reducible refine (wayfinderref02_GetAll.calls k _ _ l0 _ _ y313 t316 t317 t318 _ ?side1 ?side2 ?side3 ?side4 A16.out).mono ?_); (case side1 => repeat (first | exact (Kd.C_below HR0.out HB.out) | (with_reducible refine Kd.C_alloc ?_ _) | (with_reducible refine Kd.C_drewN ?_ _) | (with_reducible refine Kd.C_drew ?_))); (case side2 => exact HC0.out); (case side3 => repeat (first | exact (Kd.R_reads' HO315.out).2.2 | (with_reducible refine Kd.C_alloc ?_ _) | (with_reducible refine Kd.C_drewN ?_ _) | (with_reducible refine Kd.C_drew ?_))); (case side4 => exact (Kd.R_reads' HO315.out).2.1); rintro e w53 ⟨v319, rfl, ho0, hb⟩; refine ⟨_, rfl, ?_⟩; have n0_ := Aside0.mk (Kd.R_elder' (by (with_reducible repeat (first | apply Kd.R_alloc | apply Kd.R_drewN | apply Kd.R_drew)); exact HO315.out) (Kd.R_base ho0) hb); have n1_ := Aside0.mk (Kd.R_lower (Kd.R_new' ho0 (Kd.R_lt (by (with_reducible repeat (first | apply Kd.R_alloc | apply Kd.R_drewN | apply Kd.R_drew)); exact HO315.out))) (below_size (by repeat (first | (with_reducible first | exact HB.out | apply below_alloc | apply pw_below_drewN | apply below_drew1 | refine below_set ?_ GE310.out | refine below_set ?_ GE311.out) | exact HB.out)))); have n2_ := Aside0.mk (blk_below (g := gb310) (o := .cells #[.int .i64 0, .int .i64 0, .int .i64 0, .int .i64 0, .int .i64 0] 23 (0, 0)) (by (with_reducible repeat (first | refine blk_drewN ?_ _ | refine blk_drew ?_ | refine blk_alloc ?_ _)); exact BK310.out) hb); have n3_ := Aside0.mk (blk_below (g := gb311) (o := .cells #[.int .i64 0, .int .i64 0, .int .i64 0, .int .i64 0, .int .i64 0] 23 (0, 0)) (by (with_reducible repeat (first | refine blk_drewN ?_ _ | refine blk_drew ?_ | refine blk_alloc ?_ _)); exact BK311.out) hb); have n4_ := Aside0.mk (below_step (by repeat (first | (with_reducible first | exact HB.out | apply below_alloc | apply pw_below_drewN | apply below_drew1 | refine below_set ?_ GE310.out | refine below_set ?_ GE311.out) | exact HB.out)) hb); clear HO315; clear BK310; clear BK311; clear HB; have HO315 := n0_; have HO320 := n1_; have BK310 := n2_; have BK311 := n3_; have HB := n4_; clear n0_ n1_ n2_ n3_ n4_; (try clear hb); (try clear hb2); (try clear hk); (try clear hi); (try clear ho0)))
                    have n0_ := Aside0.mk (Kd.R_drew HO315.out)
                    have n1_ := Aside0.mk (Kd.R_drew HO320.out)
                    have n2_ := Aside0.mk (blk_drew BK310.out)
                    have n3_ := Aside0.mk (blk_drew BK311.out)
                    have n4_ := Aside0.mk (below_drew1 HB.out)
                    clear HO315
                    clear HO320
                    clear BK310
                    clear BK311
                    clear HB
                    have HO315 := n0_
                    have HO320 := n1_
                    have BK310 := n2_
                    have BK311 := n3_
                    have HB := n4_
                    clear n0_ n1_ n2_ n3_ n4_
                    obtain ⟨Ao55, co55, eo55⟩ := Kd.R_slice HO320.out
                    (first | subst eo55 | (injection eo55 with f1_ f2_ f3_; have f4_ := f1_.symm; have f5_ := f3_.symm; clear f1_ f2_ f3_; subst f4_; subst f5_))
                    have p321 : 0 ≤ (0 : Int) := (by omega)
                    have q321 : 0 < (t316.length : Int) := of_decide_eq_true (by first | (with_reducible assumption) | assumption)
                    obtain ⟨ad321, e321, hx321_0⟩ := Kd.at_int (Kd.R_reads' HO320.out).2.2 0 p321 q321
                    cases e321
                    have qi321 : (0 < t316.length) = True := eq_true (by omega)
                    (try rw [show ((0 : Int)).toNat = 0 from rfl] at hx321_0)
                    (try rw [Addr.add_zero'] at hx321_0)
                    replace p321 := eq_true p321
                    replace q321 := eq_true q321
                    have p322 : 0 ≤ (1 : Int) := (by omega)
                    have q322 : 1 < (t316.length : Int) := of_decide_eq_true (by first | (with_reducible assumption) | assumption)
                    obtain ⟨ad322, e322, hx322_0⟩ := Kd.at_int (Kd.R_reads' HO320.out).2.2 1 p322 q322
                    obtain rfl : ad321 = ad322 := (by injection e322)
                    (try simp only [show (1 : Int).toNat = 1 from rfl, Nat.reduceMul, Nat.reduceEqDiff, Go.Addr.add, ↓reduceIte] at hx322_0)
                    have qi322 : (1 < t316.length) = True := eq_true (by omega)
                    (try rw [show ((1 : Int)).toNat = 1 from rfl] at hx322_0)
                    replace p322 := eq_true p322
                    replace q322 := eq_true q322
                    have p323 : 0 ≤ (2 : Int) := (by omega)
                    have q323 : 2 < (t316.length : Int) := of_decide_eq_true (by first | (with_reducible assumption) | assumption)
                    obtain ⟨ad323, e323, hx323_0⟩ := Kd.at_int (Kd.R_reads' HO320.out).2.2 2 p323 q323
                    obtain rfl : ad321 = ad323 := (by injection e323)
                    (try simp only [show (2 : Int).toNat = 2 from rfl, Nat.reduceMul, Nat.reduceEqDiff, Go.Addr.add, ↓reduceIte] at hx323_0)
                    have qi323 : (2 < t316.length) = True := eq_true (by omega)
                    (try rw [show ((2 : Int)).toNat = 2 from rfl] at hx323_0)
                    replace p323 := eq_true p323
                    replace q323 := eq_true q323
                    have p324 : 0 ≤ (3 : Int) := (by omega)
                    have q324 : 3 < (t316.length : Int) := of_decide_eq_true (by first | (with_reducible assumption) | assumption)
                    obtain ⟨ad324, e324, hx324_0⟩ := Kd.at_int (Kd.R_reads' HO320.out).2.2 3 p324 q324
                    obtain rfl : ad321 = ad324 := (by injection e324)
                    (try simp only [show (3 : Int).toNat = 3 from rfl, Nat.reduceMul, Nat.reduceEqDiff, Go.Addr.add, ↓reduceIte] at hx324_0)
                    have qi324 : (3 < t316.length) = True := eq_true (by omega)
                    (try rw [show ((3 : Int)).toNat = 3 from rfl] at hx324_0)
                    replace p324 := eq_true p324
                    replace q324 := eq_true q324
                    have p325 : 0 ≤ (4 : Int) := (by omega)
                    have q325 : 4 < (t316.length : Int) := of_decide_eq_true (by first | (with_reducible assumption) | assumption)
                    obtain ⟨ad325, e325, hx325_0⟩ := Kd.at_int (Kd.R_reads' HO320.out).2.2 4 p325 q325
                    obtain rfl : ad321 = ad325 := (by injection e325)
                    (try simp only [show (4 : Int).toNat = 4 from rfl, Nat.reduceMul, Nat.reduceEqDiff, Go.Addr.add, ↓reduceIte] at hx325_0)
                    have qi325 : (4 < t316.length) = True := eq_true (by omega)
                    (try rw [show ((4 : Int)).toNat = 4 from rfl] at hx325_0)
                    replace p325 := eq_true p325
                    replace q325 := eq_true q325
                    refine start_ (n := 18) (S := fun w' => w'.cell? ad321 = some (.int .i64 (rd t316 0)) ∧ w'.cell? ⟨ad321.block, ad321.off + 1, none⟩ = some (.int .i64 (rd t316 1)) ∧ w'.cell? ⟨ad321.block, ad321.off + 2, none⟩ = some (.int .i64 (rd t316 2)) ∧ w'.cell? ⟨ad321.block, ad321.off + 3, none⟩ = some (.int .i64 (rd t316 3)) ∧ w'.cell? ⟨ad321.block, ad321.off + 4, none⟩ = some (.int .i64 (rd t316 4))) (ds := []) #[false, false, false, false, false, false, false, false, false, false, false, false, false, false, false, false, false, false] (by kernel_rfl) rfl rfl ⟨hx321_0, hx322_0, hx323_0, hx324_0, hx325_0⟩ (fun hHeld => ?_); refine with_tabW wayfinderref03_Get.tab9 wayfinderref03_Get.bits9 (fun HT_ HW_ => ?_)
                    generalize w53.drew = w54 at HO315 HO320 BK310 BK311 HB hx321_0 hx322_0 hx323_0 hx324_0 hx325_0 hHeld ⊢
                    refine pure_ (i := 0) (N := some 30) (v := ?_) (a' := ?_) #[true, false, false, false, false, false, false, false, false, false, false, false, false, false, false, false, false, false] rfl rfl (any_of HT_.out (by kernel_rfl)) (fun _ _ _ h => h) (Or.inl ⟨by rfl, ?_⟩) ?_ ?_
                    rotate_left
                    · intro w'
                      go_simp
                      with_reducible rfl
                    rotate_left
                    · simp only [Act.put, List.setIfInBounds_toArray, List.set_cons_zero, List.set_cons_succ, i64_w, i32_w]
                      rfl
                    refine pure_ (i := 1) (N := some 31) (v := ?_) (a' := ?_) #[true, true, false, false, false, false, false, false, false, false, false, false, false, false, false, false, false, false] rfl rfl (any_of HT_.out (by kernel_rfl)) (fun _ _ _ h => h) (Or.inl ⟨by rfl, ?_⟩) ?_ ?_
                    rotate_left
                    · intro w'
                      go_simp
                      with_reducible rfl
                    rotate_left
                    · simp only [Act.put, List.setIfInBounds_toArray, List.set_cons_zero, List.set_cons_succ, i64_w, i32_w]
                      rfl
                    refine pure_ (i := 3) (N := some 33) (v := ?_) (a' := ?_) #[true, true, false, true, false, false, false, false, false, false, false, false, false, false, false, false, false, false] rfl rfl (any_of HT_.out (by kernel_rfl)) (fun _ _ _ h => h) (Or.inl ⟨by rfl, ?_⟩) ?_ ?_
                    rotate_left
                    · intro w'
                      go_simp
                      with_reducible rfl
                    rotate_left
                    · simp only [Act.put, List.setIfInBounds_toArray, List.set_cons_zero, List.set_cons_succ, i64_w, i32_w]
                      rfl
                    refine pure_ (i := 4) (N := some 34) (v := ?_) (a' := ?_) #[true, true, false, true, true, false, false, false, false, false, false, false, false, false, false, false, false, false] rfl rfl (any_of HT_.out (by kernel_rfl)) (fun _ _ _ h => h) (Or.inl ⟨by rfl, ?_⟩) ?_ ?_
                    rotate_left
                    · intro w'
                      go_simp
                      with_reducible rfl
                    rotate_left
                    · simp only [Act.put, List.setIfInBounds_toArray, List.set_cons_zero, List.set_cons_succ, i64_w, i32_w]
                      rfl
                    refine pure_ (i := 6) (N := some 36) (v := ?_) (a' := ?_) #[true, true, false, true, true, false, true, false, false, false, false, false, false, false, false, false, false, false] rfl rfl (any_of HT_.out (by kernel_rfl)) (fun _ _ _ h => h) (Or.inl ⟨by rfl, ?_⟩) ?_ ?_
                    rotate_left
                    · intro w'
                      go_simp
                      with_reducible rfl
                    rotate_left
                    · simp only [Act.put, List.setIfInBounds_toArray, List.set_cons_zero, List.set_cons_succ, i64_w, i32_w]
                      rfl
                    refine pure_ (i := 7) (N := some 37) (v := ?_) (a' := ?_) #[true, true, false, true, true, false, true, true, false, false, false, false, false, false, false, false, false, false] rfl rfl (any_of HT_.out (by kernel_rfl)) (fun _ _ _ h => h) (Or.inl ⟨by rfl, ?_⟩) ?_ ?_
                    rotate_left
                    · intro w'
                      go_simp
                      with_reducible rfl
                    rotate_left
                    · simp only [Act.put, List.setIfInBounds_toArray, List.set_cons_zero, List.set_cons_succ, i64_w, i32_w]
                      rfl
                    refine pure_ (i := 9) (N := some 39) (v := ?_) (a' := ?_) #[true, true, false, true, true, false, true, true, false, true, false, false, false, false, false, false, false, false] rfl rfl (any_of HT_.out (by kernel_rfl)) (fun _ _ _ h => h) (Or.inl ⟨by rfl, ?_⟩) ?_ ?_
                    rotate_left
                    · intro w'
                      go_simp
                      with_reducible rfl
                    rotate_left
                    · simp only [Act.put, List.setIfInBounds_toArray, List.set_cons_zero, List.set_cons_succ, i64_w, i32_w]
                      rfl
                    refine pure_ (i := 10) (N := some 40) (v := ?_) (a' := ?_) #[true, true, false, true, true, false, true, true, false, true, true, false, false, false, false, false, false, false] rfl rfl (any_of HT_.out (by kernel_rfl)) (fun _ _ _ h => h) (Or.inl ⟨by rfl, ?_⟩) ?_ ?_
                    rotate_left
                    · intro w'
                      go_simp
                      with_reducible rfl
                    rotate_left
                    · simp only [Act.put, List.setIfInBounds_toArray, List.set_cons_zero, List.set_cons_succ, i64_w, i32_w]
                      rfl
                    refine pure_ (i := 12) (N := some 42) (v := ?_) (a' := ?_) #[true, true, false, true, true, false, true, true, false, true, true, false, true, false, false, false, false, false] rfl rfl (any_of HT_.out (by kernel_rfl)) (fun _ _ _ h => h) (Or.inl ⟨by rfl, ?_⟩) ?_ ?_
                    rotate_left
                    · intro w'
                      go_simp
                      with_reducible rfl
                    rotate_left
                    · simp only [Act.put, List.setIfInBounds_toArray, List.set_cons_zero, List.set_cons_succ, i64_w, i32_w]
                      rfl
                    refine pure_ (i := 13) (N := some 43) (v := ?_) (a' := ?_) #[true, true, false, true, true, false, true, true, false, true, true, false, true, true, false, false, false, false] rfl rfl (any_of HT_.out (by kernel_rfl)) (fun _ _ _ h => h) (Or.inl ⟨by rfl, ?_⟩) ?_ ?_
                    rotate_left
                    · intro w'
                      go_simp
                      with_reducible rfl
                    rotate_left
                    · simp only [Act.put, List.setIfInBounds_toArray, List.set_cons_zero, List.set_cons_succ, i64_w, i32_w]
                      rfl
                    refine take_ (i := 2) (N := some 32) (v := ?_) (a' := ?_) #[true, true, true, true, true, false, true, true, false, true, true, false, true, true, false, false, false, false] rfl rfl (take_ofW HT_.out HW_.out (by kernel_rfl)) (fun _ _ _ h => h) (Or.inl ⟨by rfl, ?_⟩) hHeld ?_ ?_
                    rotate_left
                    · rintro w' ⟨s0, s1, s2, s3, s4⟩
                      go_simp
                      with_reducible rfl
                    rotate_left
                    · simp only [Act.put, List.setIfInBounds_toArray, List.set_cons_zero, List.set_cons_succ, i64_w, i32_w]
                      rfl
                    refine take_ (i := 5) (N := some 35) (v := ?_) (a' := ?_) #[true, true, true, true, true, true, true, true, false, true, true, false, true, true, false, false, false, false] rfl rfl (take_ofW HT_.out HW_.out (by kernel_rfl)) (fun _ _ _ h => h) (Or.inl ⟨by rfl, ?_⟩) hHeld ?_ ?_
                    rotate_left
                    · rintro w' ⟨s0, s1, s2, s3, s4⟩
                      go_simp
                      with_reducible rfl
                    rotate_left
                    · simp only [Act.put, List.setIfInBounds_toArray, List.set_cons_zero, List.set_cons_succ, i64_w, i32_w]
                      rfl
                    refine take_ (i := 8) (N := some 38) (v := ?_) (a' := ?_) #[true, true, true, true, true, true, true, true, true, true, true, false, true, true, false, false, false, false] rfl rfl (take_ofW HT_.out HW_.out (by kernel_rfl)) (fun _ _ _ h => h) (Or.inl ⟨by rfl, ?_⟩) hHeld ?_ ?_
                    rotate_left
                    · rintro w' ⟨s0, s1, s2, s3, s4⟩
                      go_simp
                      with_reducible rfl
                    rotate_left
                    · simp only [Act.put, List.setIfInBounds_toArray, List.set_cons_zero, List.set_cons_succ, i64_w, i32_w]
                      rfl
                    refine take_ (i := 11) (N := some 41) (v := ?_) (a' := ?_) #[true, true, true, true, true, true, true, true, true, true, true, true, true, true, false, false, false, false] rfl rfl (take_ofW HT_.out HW_.out (by kernel_rfl)) (fun _ _ _ h => h) (Or.inl ⟨by rfl, ?_⟩) hHeld ?_ ?_
                    rotate_left
                    · rintro w' ⟨s0, s1, s2, s3, s4⟩
                      go_simp
                      with_reducible rfl
                    rotate_left
                    · simp only [Act.put, List.setIfInBounds_toArray, List.set_cons_zero, List.set_cons_succ, i64_w, i32_w]
                      rfl
                    refine take_ (i := 14) (N := some 44) (v := ?_) (a' := ?_) #[true, true, true, true, true, true, true, true, true, true, true, true, true, true, true, false, false, false] rfl rfl (take_ofW HT_.out HW_.out (by kernel_rfl)) (fun _ _ _ h => h) (Or.inl ⟨by rfl, ?_⟩) hHeld ?_ ?_
                    rotate_left
                    · rintro w' ⟨s0, s1, s2, s3, s4⟩
                      go_simp
                      with_reducible rfl
                    rotate_left
                    · simp only [Act.put, List.setIfInBounds_toArray, List.set_cons_zero, List.set_cons_succ, i64_w, i32_w]
                      rfl
                    refine pure_ (i := 15) (N := some 45) (v := ?_) (a' := ?_) #[true, true, true, true, true, true, true, true, true, true, true, true, true, true, true, true, false, false] rfl rfl (any_of HT_.out (by kernel_rfl)) (fun _ _ _ h => h) (Or.inl ⟨by rfl, ?_⟩) ?_ ?_
                    rotate_left
                    · intro w'
                      go_simp
                      with_reducible rfl
                    rotate_left
                    · simp only [Act.put, List.setIfInBounds_toArray, List.set_cons_zero, List.set_cons_succ, i64_w, i32_w]
                      rfl
                    refine one_ (i := 16) (N := some 8) #[true, true, true, true, true, true, true, true, true, true, true, true, true, true, true, true, true, false] rfl rfl (one_of HT_.out (by kernel_rfl)) (by decide) (fun K hK => ?_)
                    refine box_step ?hg (N := 8) ?hd (cs := #[.int .i64 0, .int .i64 0, .int .i64 0, .int .i64 0, .int .i64 0]) (t := 23) ?hr ?_; (case hd => rfl); (case hg => rfl); (case hr => first | (go_simp; done) | (go_simp; rfl))
                    intro gb326 hg w56 hbox hb
                    have HS0_ := (hb.cell (World.block_lt_of_cell? _ _ (hHeld.1))).trans (hHeld.1)
                    have HS1_ := (hb.cell (World.block_lt_of_cell? _ _ (hHeld.2.1))).trans (hHeld.2.1)
                    have HS2_ := (hb.cell (World.block_lt_of_cell? _ _ (hHeld.2.2.1))).trans (hHeld.2.2.1)
                    have HS3_ := (hb.cell (World.block_lt_of_cell? _ _ (hHeld.2.2.2.1))).trans (hHeld.2.2.2.1)
                    have HS4_ := (hb.cell (World.block_lt_of_cell? _ _ (hHeld.2.2.2.2))).trans (hHeld.2.2.2.2)
                    have n0_ := Aside0.mk (Kd.R_below (by (with_reducible repeat (first | apply Kd.R_alloc | apply Kd.R_drewN | apply Kd.R_drew)); exact HO315.out) hb)
                    have n1_ := Aside0.mk (Kd.R_below (by (with_reducible repeat (first | apply Kd.R_alloc | apply Kd.R_drewN | apply Kd.R_drew)); exact HO320.out) hb)
                    have n2_ := Aside0.mk (blk_below (g := gb310) (o := .cells #[.int .i64 0, .int .i64 0, .int .i64 0, .int .i64 0, .int .i64 0] 23 (0, 0)) (by (with_reducible repeat (first | refine blk_drewN ?_ _ | refine blk_drew ?_ | refine blk_alloc ?_ _)); exact BK310.out) hb)
                    have n3_ := Aside0.mk (blk_below (g := gb311) (o := .cells #[.int .i64 0, .int .i64 0, .int .i64 0, .int .i64 0, .int .i64 0] 23 (0, 0)) (by (with_reducible repeat (first | refine blk_drewN ?_ _ | refine blk_drew ?_ | refine blk_alloc ?_ _)); exact BK311.out) hb)
                    have n4_ := Aside0.mk (below_step (by repeat (first | (with_reducible first | exact HB.out | apply below_alloc | apply pw_below_drewN | apply below_drew1 | refine below_set ?_ GE310.out | refine below_set ?_ GE311.out) | exact HB.out)) hb)
                    have n5_ := Aside0.mk (hbox)
                    have n6_ := Aside0.mk ((by rw [hg]; exact (below_size (by repeat (first | (with_reducible first | exact HB.out | apply below_alloc | apply pw_below_drewN | apply below_drew1 | refine below_set ?_ GE310.out | refine below_set ?_ GE311.out) | exact HB.out))) : w.heap.size ≤ gb326))
                    have n7_ := Aside0.mk ((by rw [hg]; exact (below_size (by repeat (first | (with_reducible first | exact HB.out | apply below_alloc | apply pw_below_drewN | apply below_drew1 | refine below_set ?_ GE310.out | refine below_set ?_ GE311.out) | exact HB.out))) : w.heap.size ≤ gb326))
                    have n8_ := Aside0.mk ((by rw [hg]; exact Nat.ne_of_lt (blk_lt (g := gb310) (o := .cells #[.int .i64 0, .int .i64 0, .int .i64 0, .int .i64 0, .int .i64 0] 23 (0, 0)) (by (with_reducible repeat (first | refine blk_drewN ?_ _ | refine blk_drew ?_ | refine blk_alloc ?_ _)); exact BK310.out)) : gb310 ≠ gb326))
                    have n9_ := Aside0.mk ((by rw [hg]; exact Nat.ne_of_gt (blk_lt (g := gb310) (o := .cells #[.int .i64 0, .int .i64 0, .int .i64 0, .int .i64 0, .int .i64 0] 23 (0, 0)) (by (with_reducible repeat (first | refine blk_drewN ?_ _ | refine blk_drew ?_ | refine blk_alloc ?_ _)); exact BK310.out)) : gb326 ≠ gb310))
                    have n10_ := Aside0.mk ((by rw [hg]; exact Nat.ne_of_lt (blk_lt (g := gb311) (o := .cells #[.int .i64 0, .int .i64 0, .int .i64 0, .int .i64 0, .int .i64 0] 23 (0, 0)) (by (with_reducible repeat (first | refine blk_drewN ?_ _ | refine blk_drew ?_ | refine blk_alloc ?_ _)); exact BK311.out)) : gb311 ≠ gb326))
                    have n11_ := Aside0.mk ((by rw [hg]; exact Nat.ne_of_gt (blk_lt (g := gb311) (o := .cells #[.int .i64 0, .int .i64 0, .int .i64 0, .int .i64 0, .int .i64 0] 23 (0, 0)) (by (with_reducible repeat (first | refine blk_drewN ?_ _ | refine blk_drew ?_ | refine blk_alloc ?_ _)); exact BK311.out)) : gb326 ≠ gb311))
                    clear HO315
                    clear HO320
                    clear BK310
                    clear BK311
                    clear HB
                    have HO315 := n0_
                    have HO320 := n1_
                    have BK310 := n2_
                    have BK311 := n3_
                    have HB := n4_
                    have BK326 := n5_
                    have GW326 := n6_
                    have GE326 := n7_
                    have NB310_326 := n8_
                    have NB326_310 := n9_
                    have NB311_326 := n10_
                    have NB326_311 := n11_
                    clear n0_ n1_ n2_ n3_ n4_ n5_ n6_ n7_ n8_ n9_ n10_ n11_
                    clear hb hbox hg
                    refine hK.out _ _ ⟨HS0_, HS1_, HS2_, HS3_, HS4_⟩ (fun hHeld => ?_)
                    clear hK K
                    refine norm_ (a' := ?_) ?_ ?_
                    rotate_left
                    · show Act.put _ (some 8) _ = _
                      simp only [Act.put, List.setIfInBounds_toArray, List.set_cons_zero, List.set_cons_succ, i64_w, i32_w]
                      rfl
                    refine one_ (i := 17) (N := none) #[true, true, true, true, true, true, true, true, true, true, true, true, true, true, true, true, true, true] rfl rfl (one_of HT_.out (by kernel_rfl)) (by decide) (fun K hK => ?_)
                    have hs57 : w56.cell? ⟨gb326, 0, none⟩ = some (.int .i64 0) := (blk_cell BK326.out 0).trans rfl
                    have hfs57 := blk_frozen BK326.out 0
                    have hns57_0 := NB310_326.out
                    have hns57_1 := NB311_326.out
                    have hms57_0 := NB326_310.out
                    have hms57_1 := NB326_311.out
                    have hs58 : w56.cell? ⟨gb326, 1, none⟩ = some (.int .i64 0) := (blk_cell BK326.out 1).trans rfl
                    have hfs58 := blk_frozen BK326.out 1
                    have hns58_0 := NB310_326.out
                    have hns58_1 := NB311_326.out
                    have hms58_0 := NB326_310.out
                    have hms58_1 := NB326_311.out
                    have hs59 : w56.cell? ⟨gb326, 2, none⟩ = some (.int .i64 0) := (blk_cell BK326.out 2).trans rfl
                    have hfs59 := blk_frozen BK326.out 2
                    have hns59_0 := NB310_326.out
                    have hns59_1 := NB311_326.out
                    have hms59_0 := NB326_310.out
                    have hms59_1 := NB326_311.out
                    have hs60 : w56.cell? ⟨gb326, 3, none⟩ = some (.int .i64 0) := (blk_cell BK326.out 3).trans rfl
                    have hfs60 := blk_frozen BK326.out 3
                    have hns60_0 := NB310_326.out
                    have hns60_1 := NB311_326.out
                    have hms60_0 := NB326_310.out
                    have hms60_1 := NB326_311.out
                    have hs61 : w56.cell? ⟨gb326, 4, none⟩ = some (.int .i64 0) := (blk_cell BK326.out 4).trans rfl
                    have hfs61 := blk_frozen BK326.out 4
                    have hns61_0 := NB310_326.out
                    have hns61_1 := NB311_326.out
                    have hms61_0 := NB326_310.out
                    have hms61_1 := NB326_311.out
                    refine skip_ (w1 := ?_) (by rfl) rfl ?_ ?_
                    rotate_left
                    · go_simp
                      rfl
                    refine hK.out _ _ ⟨((cell_far (p := ⟨gb326, _, none⟩) (by first | exact Kd.own_blk (Kd.R_ne HO320.out BK326.out (by decide)) | (rw [add_block]; exact Kd.own_blk (Kd.R_ne HO320.out BK326.out (by decide))) | (show (Addr.add _ _).block ≠ _; rw [add_block]; exact Kd.own_blk (Kd.R_ne HO320.out BK326.out (by decide))) | (dsimp only; exact Kd.own_blk (Kd.R_ne HO320.out BK326.out (by decide)))) _).trans (((cell_far (p := ⟨gb326, _, none⟩) (by first | exact Kd.own_blk (Kd.R_ne HO320.out BK326.out (by decide)) | (rw [add_block]; exact Kd.own_blk (Kd.R_ne HO320.out BK326.out (by decide))) | (show (Addr.add _ _).block ≠ _; rw [add_block]; exact Kd.own_blk (Kd.R_ne HO320.out BK326.out (by decide))) | (dsimp only; exact Kd.own_blk (Kd.R_ne HO320.out BK326.out (by decide)))) _).trans (((cell_far (p := ⟨gb326, _, none⟩) (by first | exact Kd.own_blk (Kd.R_ne HO320.out BK326.out (by decide)) | (rw [add_block]; exact Kd.own_blk (Kd.R_ne HO320.out BK326.out (by decide))) | (show (Addr.add _ _).block ≠ _; rw [add_block]; exact Kd.own_blk (Kd.R_ne HO320.out BK326.out (by decide))) | (dsimp only; exact Kd.own_blk (Kd.R_ne HO320.out BK326.out (by decide)))) _).trans (((cell_far (p := ⟨gb326, _, none⟩) (by first | exact Kd.own_blk (Kd.R_ne HO320.out BK326.out (by decide)) | (rw [add_block]; exact Kd.own_blk (Kd.R_ne HO320.out BK326.out (by decide))) | (show (Addr.add _ _).block ≠ _; rw [add_block]; exact Kd.own_blk (Kd.R_ne HO320.out BK326.out (by decide))) | (dsimp only; exact Kd.own_blk (Kd.R_ne HO320.out BK326.out (by decide)))) _).trans (((cell_far (p := ⟨gb326, _, none⟩) (by first | exact Kd.own_blk (Kd.R_ne HO320.out BK326.out (by decide)) | (rw [add_block]; exact Kd.own_blk (Kd.R_ne HO320.out BK326.out (by decide))) | (show (Addr.add _ _).block ≠ _; rw [add_block]; exact Kd.own_blk (Kd.R_ne HO320.out BK326.out (by decide))) | (dsimp only; exact Kd.own_blk (Kd.R_ne HO320.out BK326.out (by decide)))) _).trans (hHeld.1)))))))))), ((cell_far (p := ⟨gb326, _, none⟩) (by first | exact Kd.own_blk (Kd.R_ne HO320.out BK326.out (by decide)) | (rw [add_block]; exact Kd.own_blk (Kd.R_ne HO320.out BK326.out (by decide))) | (show (Addr.add _ _).block ≠ _; rw [add_block]; exact Kd.own_blk (Kd.R_ne HO320.out BK326.out (by decide))) | (dsimp only; exact Kd.own_blk (Kd.R_ne HO320.out BK326.out (by decide)))) _).trans (((cell_far (p := ⟨gb326, _, none⟩) (by first | exact Kd.own_blk (Kd.R_ne HO320.out BK326.out (by decide)) | (rw [add_block]; exact Kd.own_blk (Kd.R_ne HO320.out BK326.out (by decide))) | (show (Addr.add _ _).block ≠ _; rw [add_block]; exact Kd.own_blk (Kd.R_ne HO320.out BK326.out (by decide))) | (dsimp only; exact Kd.own_blk (Kd.R_ne HO320.out BK326.out (by decide)))) _).trans (((cell_far (p := ⟨gb326, _, none⟩) (by first | exact Kd.own_blk (Kd.R_ne HO320.out BK326.out (by decide)) | (rw [add_block]; exact Kd.own_blk (Kd.R_ne HO320.out BK326.out (by decide))) | (show (Addr.add _ _).block ≠ _; rw [add_block]; exact Kd.own_blk (Kd.R_ne HO320.out BK326.out (by decide))) | (dsimp only; exact Kd.own_blk (Kd.R_ne HO320.out BK326.out (by decide)))) _).trans (((cell_far (p := ⟨gb326, _, none⟩) (by first | exact Kd.own_blk (Kd.R_ne HO320.out BK326.out (by decide)) | (rw [add_block]; exact Kd.own_blk (Kd.R_ne HO320.out BK326.out (by decide))) | (show (Addr.add _ _).block ≠ _; rw [add_block]; exact Kd.own_blk (Kd.R_ne HO320.out BK326.out (by decide))) | (dsimp only; exact Kd.own_blk (Kd.R_ne HO320.out BK326.out (by decide)))) _).trans (((cell_far (p := ⟨gb326, _, none⟩) (by first | exact Kd.own_blk (Kd.R_ne HO320.out BK326.out (by decide)) | (rw [add_block]; exact Kd.own_blk (Kd.R_ne HO320.out BK326.out (by decide))) | (show (Addr.add _ _).block ≠ _; rw [add_block]; exact Kd.own_blk (Kd.R_ne HO320.out BK326.out (by decide))) | (dsimp only; exact Kd.own_blk (Kd.R_ne HO320.out BK326.out (by decide)))) _).trans (hHeld.2.1)))))))))), ((cell_far (p := ⟨gb326, _, none⟩) (by first | exact Kd.own_blk (Kd.R_ne HO320.out BK326.out (by decide)) | (rw [add_block]; exact Kd.own_blk (Kd.R_ne HO320.out BK326.out (by decide))) | (show (Addr.add _ _).block ≠ _; rw [add_block]; exact Kd.own_blk (Kd.R_ne HO320.out BK326.out (by decide))) | (dsimp only; exact Kd.own_blk (Kd.R_ne HO320.out BK326.out (by decide)))) _).trans (((cell_far (p := ⟨gb326, _, none⟩) (by first | exact Kd.own_blk (Kd.R_ne HO320.out BK326.out (by decide)) | (rw [add_block]; exact Kd.own_blk (Kd.R_ne HO320.out BK326.out (by decide))) | (show (Addr.add _ _).block ≠ _; rw [add_block]; exact Kd.own_blk (Kd.R_ne HO320.out BK326.out (by decide))) | (dsimp only; exact Kd.own_blk (Kd.R_ne HO320.out BK326.out (by decide)))) _).trans (((cell_far (p := ⟨gb326, _, none⟩) (by first | exact Kd.own_blk (Kd.R_ne HO320.out BK326.out (by decide)) | (rw [add_block]; exact Kd.own_blk (Kd.R_ne HO320.out BK326.out (by decide))) | (show (Addr.add _ _).block ≠ _; rw [add_block]; exact Kd.own_blk (Kd.R_ne HO320.out BK326.out (by decide))) | (dsimp only; exact Kd.own_blk (Kd.R_ne HO320.out BK326.out (by decide)))) _).trans (((cell_far (p := ⟨gb326, _, none⟩) (by first | exact Kd.own_blk (Kd.R_ne HO320.out BK326.out (by decide)) | (rw [add_block]; exact Kd.own_blk (Kd.R_ne HO320.out BK326.out (by decide))) | (show (Addr.add _ _).block ≠ _; rw [add_block]; exact Kd.own_blk (Kd.R_ne HO320.out BK326.out (by decide))) | (dsimp only; exact Kd.own_blk (Kd.R_ne HO320.out BK326.out (by decide)))) _).trans (((cell_far (p := ⟨gb326, _, none⟩) (by first | exact Kd.own_blk (Kd.R_ne HO320.out BK326.out (by decide)) | (rw [add_block]; exact Kd.own_blk (Kd.R_ne HO320.out BK326.out (by decide))) | (show (Addr.add _ _).block ≠ _; rw [add_block]; exact Kd.own_blk (Kd.R_ne HO320.out BK326.out (by decide))) | (dsimp only; exact Kd.own_blk (Kd.R_ne HO320.out BK326.out (by decide)))) _).trans (hHeld.2.2.1)))))))))), ((cell_far (p := ⟨gb326, _, none⟩) (by first | exact Kd.own_blk (Kd.R_ne HO320.out BK326.out (by decide)) | (rw [add_block]; exact Kd.own_blk (Kd.R_ne HO320.out BK326.out (by decide))) | (show (Addr.add _ _).block ≠ _; rw [add_block]; exact Kd.own_blk (Kd.R_ne HO320.out BK326.out (by decide))) | (dsimp only; exact Kd.own_blk (Kd.R_ne HO320.out BK326.out (by decide)))) _).trans (((cell_far (p := ⟨gb326, _, none⟩) (by first | exact Kd.own_blk (Kd.R_ne HO320.out BK326.out (by decide)) | (rw [add_block]; exact Kd.own_blk (Kd.R_ne HO320.out BK326.out (by decide))) | (show (Addr.add _ _).block ≠ _; rw [add_block]; exact Kd.own_blk (Kd.R_ne HO320.out BK326.out (by decide))) | (dsimp only; exact Kd.own_blk (Kd.R_ne HO320.out BK326.out (by decide)))) _).trans (((cell_far (p := ⟨gb326, _, none⟩) (by first | exact Kd.own_blk (Kd.R_ne HO320.out BK326.out (by decide)) | (rw [add_block]; exact Kd.own_blk (Kd.R_ne HO320.out BK326.out (by decide))) | (show (Addr.add _ _).block ≠ _; rw [add_block]; exact Kd.own_blk (Kd.R_ne HO320.out BK326.out (by decide))) | (dsimp only; exact Kd.own_blk (Kd.R_ne HO320.out BK326.out (by decide)))) _).trans (((cell_far (p := ⟨gb326, _, none⟩) (by first | exact Kd.own_blk (Kd.R_ne HO320.out BK326.out (by decide)) | (rw [add_block]; exact Kd.own_blk (Kd.R_ne HO320.out BK326.out (by decide))) | (show (Addr.add _ _).block ≠ _; rw [add_block]; exact Kd.own_blk (Kd.R_ne HO320.out BK326.out (by decide))) | (dsimp only; exact Kd.own_blk (Kd.R_ne HO320.out BK326.out (by decide)))) _).trans (((cell_far (p := ⟨gb326, _, none⟩) (by first | exact Kd.own_blk (Kd.R_ne HO320.out BK326.out (by decide)) | (rw [add_block]; exact Kd.own_blk (Kd.R_ne HO320.out BK326.out (by decide))) | (show (Addr.add _ _).block ≠ _; rw [add_block]; exact Kd.own_blk (Kd.R_ne HO320.out BK326.out (by decide))) | (dsimp only; exact Kd.own_blk (Kd.R_ne HO320.out BK326.out (by decide)))) _).trans (hHeld.2.2.2.1)))))))))), ((cell_far (p := ⟨gb326, _, none⟩) (by first | exact Kd.own_blk (Kd.R_ne HO320.out BK326.out (by decide)) | (rw [add_block]; exact Kd.own_blk (Kd.R_ne HO320.out BK326.out (by decide))) | (show (Addr.add _ _).block ≠ _; rw [add_block]; exact Kd.own_blk (Kd.R_ne HO320.out BK326.out (by decide))) | (dsimp only; exact Kd.own_blk (Kd.R_ne HO320.out BK326.out (by decide)))) _).trans (((cell_far (p := ⟨gb326, _, none⟩) (by first | exact Kd.own_blk (Kd.R_ne HO320.out BK326.out (by decide)) | (rw [add_block]; exact Kd.own_blk (Kd.R_ne HO320.out BK326.out (by decide))) | (show (Addr.add _ _).block ≠ _; rw [add_block]; exact Kd.own_blk (Kd.R_ne HO320.out BK326.out (by decide))) | (dsimp only; exact Kd.own_blk (Kd.R_ne HO320.out BK326.out (by decide)))) _).trans (((cell_far (p := ⟨gb326, _, none⟩) (by first | exact Kd.own_blk (Kd.R_ne HO320.out BK326.out (by decide)) | (rw [add_block]; exact Kd.own_blk (Kd.R_ne HO320.out BK326.out (by decide))) | (show (Addr.add _ _).block ≠ _; rw [add_block]; exact Kd.own_blk (Kd.R_ne HO320.out BK326.out (by decide))) | (dsimp only; exact Kd.own_blk (Kd.R_ne HO320.out BK326.out (by decide)))) _).trans (((cell_far (p := ⟨gb326, _, none⟩) (by first | exact Kd.own_blk (Kd.R_ne HO320.out BK326.out (by decide)) | (rw [add_block]; exact Kd.own_blk (Kd.R_ne HO320.out BK326.out (by decide))) | (show (Addr.add _ _).block ≠ _; rw [add_block]; exact Kd.own_blk (Kd.R_ne HO320.out BK326.out (by decide))) | (dsimp only; exact Kd.own_blk (Kd.R_ne HO320.out BK326.out (by decide)))) _).trans (((cell_far (p := ⟨gb326, _, none⟩) (by first | exact Kd.own_blk (Kd.R_ne HO320.out BK326.out (by decide)) | (rw [add_block]; exact Kd.own_blk (Kd.R_ne HO320.out BK326.out (by decide))) | (show (Addr.add _ _).block ≠ _; rw [add_block]; exact Kd.own_blk (Kd.R_ne HO320.out BK326.out (by decide))) | (dsimp only; exact Kd.own_blk (Kd.R_ne HO320.out BK326.out (by decide)))) _).trans (hHeld.2.2.2.2))))))))))⟩ (fun hHeld => ?_)
                    clear hK K
                    refine done_ (done_of HT_.out (by kernel_rfl)) ?_
                    have hnb62 := NB326_310.out
                    have hnc62 := NB310_326.out
                    have hnb63 := NB326_311.out
                    have hnc63 := NB311_326.out
                    have hcz64_0 : w56.cell? ⟨gb326, 0, none⟩ = some (.int .i64 0) := (blk_cell BK326.out 0).trans rfl
                    have hcz64_1 : w56.cell? ⟨gb326, 1, none⟩ = some (.int .i64 0) := (blk_cell BK326.out 1).trans rfl
                    have hcz64_2 : w56.cell? ⟨gb326, 2, none⟩ = some (.int .i64 0) := (blk_cell BK326.out 2).trans rfl
                    have hcz64_3 : w56.cell? ⟨gb326, 3, none⟩ = some (.int .i64 0) := (blk_cell BK326.out 3).trans rfl
                    have hcz64_4 : w56.cell? ⟨gb326, 4, none⟩ = some (.int .i64 0) := (blk_cell BK326.out 4).trans rfl
                    have hfz64_0 := blk_frozen BK326.out 0
                    have hfz64_1 := blk_frozen BK326.out 1
                    have hfz64_2 := blk_frozen BK326.out 2
                    have hfz64_3 := blk_frozen BK326.out 3
                    have hfz64_4 := blk_frozen BK326.out 4
                    try go_wp2_with (first | ((with_reducible refine gate_callee (f := 15) rfl ?_); refine goesL_ (some 47) rfl rfl Tryd.func15 (by kernel_rfl) rfl #[.agg #[.int .i64 (rd t316 0), .int .i64 (rd t316 1), .int .i64 (rd t316 2), .int .i64 (rd t316 3), .int .i64 (rd t316 4)]] rfl (by (try simp only [List.map_toArray, List.map_cons, List.map_nil]); first | done | rfl | (simp only [List.length_drop, List.length_take]; rfl)) ?_; (with_reducible refine (wayfinderref03_May.calls (rd t316 0) (rd t316 1) (rd t316 2) (rd t316 3) (rd t316 4) false _ A22.out).mono ?_); rintro e w65 ⟨rfl, hb⟩; refine ⟨_, rfl, ?_⟩; have n0_ := Aside0.mk (Kd.R_below (by (with_reducible repeat (first | apply Kd.R_alloc | apply Kd.R_drewN | apply Kd.R_drew)); exact (Kd.R_mono (Kd.R_far (p := ⟨gb326, 4, none⟩) (Kd.R_far (p := ⟨gb326, 3, none⟩) (Kd.R_far (p := ⟨gb326, 2, none⟩) (Kd.R_far (p := ⟨gb326, 1, none⟩) (Kd.R_far (p := ⟨gb326, 0, none⟩) (Kd.R_types HO315.out BK326.out (by decide)) (fun _ hk => hk.2) (.int .i64 (rd t316 0))) (fun _ hk => hk.2) (.int .i64 (rd t316 1))) (fun _ hk => hk.2) (.int .i64 (rd t316 2))) (fun _ hk => hk.2) (.int .i64 (rd t316 3))) (fun _ hk => hk.2) (.int .i64 (rd t316 4))) (fun _ h_ => h_.1))) hb); have n1_ := Aside0.mk (Kd.R_below (by (with_reducible repeat (first | apply Kd.R_alloc | apply Kd.R_drewN | apply Kd.R_drew)); exact (Kd.R_mono (Kd.R_far (p := ⟨gb326, 4, none⟩) (Kd.R_far (p := ⟨gb326, 3, none⟩) (Kd.R_far (p := ⟨gb326, 2, none⟩) (Kd.R_far (p := ⟨gb326, 1, none⟩) (Kd.R_far (p := ⟨gb326, 0, none⟩) (Kd.R_types HO320.out BK326.out (by decide)) (fun _ hk => hk.2) (.int .i64 (rd t316 0))) (fun _ hk => hk.2) (.int .i64 (rd t316 1))) (fun _ hk => hk.2) (.int .i64 (rd t316 2))) (fun _ hk => hk.2) (.int .i64 (rd t316 3))) (fun _ hk => hk.2) (.int .i64 (rd t316 4))) (fun _ h_ => h_.1))) hb); have n2_ := Aside0.mk (blk_below (g := gb310) (o := .cells #[.int .i64 0, .int .i64 0, .int .i64 0, .int .i64 0, .int .i64 0] 23 (0, 0)) (by (with_reducible repeat (first | refine blk_drewN ?_ _ | refine blk_drew ?_ | refine blk_alloc ?_ _)); refine blk_far ?_ NB310_326.out _; (with_reducible repeat (first | refine blk_drewN ?_ _ | refine blk_drew ?_ | refine blk_alloc ?_ _)); refine blk_far ?_ NB310_326.out _; (with_reducible repeat (first | refine blk_drewN ?_ _ | refine blk_drew ?_ | refine blk_alloc ?_ _)); refine blk_far ?_ NB310_326.out _; (with_reducible repeat (first | refine blk_drewN ?_ _ | refine blk_drew ?_ | refine blk_alloc ?_ _)); refine blk_far ?_ NB310_326.out _; (with_reducible repeat (first | refine blk_drewN ?_ _ | refine blk_drew ?_ | refine blk_alloc ?_ _)); refine blk_far ?_ NB310_326.out _; (with_reducible repeat (first | refine blk_drewN ?_ _ | refine blk_drew ?_ | refine blk_alloc ?_ _)); exact BK310.out) hb); have n3_ := Aside0.mk (blk_below (g := gb311) (o := .cells #[.int .i64 0, .int .i64 0, .int .i64 0, .int .i64 0, .int .i64 0] 23 (0, 0)) (by (with_reducible repeat (first | refine blk_drewN ?_ _ | refine blk_drew ?_ | refine blk_alloc ?_ _)); refine blk_far ?_ NB311_326.out _; (with_reducible repeat (first | refine blk_drewN ?_ _ | refine blk_drew ?_ | refine blk_alloc ?_ _)); refine blk_far ?_ NB311_326.out _; (with_reducible repeat (first | refine blk_drewN ?_ _ | refine blk_drew ?_ | refine blk_alloc ?_ _)); refine blk_far ?_ NB311_326.out _; (with_reducible repeat (first | refine blk_drewN ?_ _ | refine blk_drew ?_ | refine blk_alloc ?_ _)); refine blk_far ?_ NB311_326.out _; (with_reducible repeat (first | refine blk_drewN ?_ _ | refine blk_drew ?_ | refine blk_alloc ?_ _)); refine blk_far ?_ NB311_326.out _; (with_reducible repeat (first | refine blk_drewN ?_ _ | refine blk_drew ?_ | refine blk_alloc ?_ _)); exact BK311.out) hb); have n4_ := Aside0.mk (blk_below (g := gb326) (o := .cells #[.int .i64 (rd t316 0), .int .i64 (rd t316 1), .int .i64 (rd t316 2), .int .i64 (rd t316 3), .int .i64 (rd t316 4)] 23 (0, 0)) (by (with_reducible repeat (first | refine blk_drewN ?_ _ | refine blk_drew ?_ | refine blk_alloc ?_ _)); refine blk_put (cs := #[.int .i64 (rd t316 0), .int .i64 (rd t316 1), .int .i64 (rd t316 2), .int .i64 (rd t316 3), .int .i64 0]) ?_ 4 _ rfl; (with_reducible repeat (first | refine blk_drewN ?_ _ | refine blk_drew ?_ | refine blk_alloc ?_ _)); refine blk_put (cs := #[.int .i64 (rd t316 0), .int .i64 (rd t316 1), .int .i64 (rd t316 2), .int .i64 0, .int .i64 0]) ?_ 3 _ rfl; (with_reducible repeat (first | refine blk_drewN ?_ _ | refine blk_drew ?_ | refine blk_alloc ?_ _)); refine blk_put (cs := #[.int .i64 (rd t316 0), .int .i64 (rd t316 1), .int .i64 0, .int .i64 0, .int .i64 0]) ?_ 2 _ rfl; (with_reducible repeat (first | refine blk_drewN ?_ _ | refine blk_drew ?_ | refine blk_alloc ?_ _)); refine blk_put (cs := #[.int .i64 (rd t316 0), .int .i64 0, .int .i64 0, .int .i64 0, .int .i64 0]) ?_ 1 _ rfl; (with_reducible repeat (first | refine blk_drewN ?_ _ | refine blk_drew ?_ | refine blk_alloc ?_ _)); refine blk_put (cs := #[.int .i64 0, .int .i64 0, .int .i64 0, .int .i64 0, .int .i64 0]) ?_ 0 _ rfl; (with_reducible repeat (first | refine blk_drewN ?_ _ | refine blk_drew ?_ | refine blk_alloc ?_ _)); exact BK326.out) hb); have n5_ := Aside0.mk (below_step (by repeat (first | (with_reducible first | exact HB.out | apply below_alloc | apply pw_below_drewN | apply below_drew1 | refine below_set ?_ GE310.out | refine below_set ?_ GE311.out | refine below_set ?_ GE326.out) | exact HB.out)) hb); clear HO315; clear HO320; clear BK310; clear BK311; clear BK326; clear HB; have HO315 := n0_; have HO320 := n1_; have BK310 := n2_; have BK311 := n3_; have BK326 := n4_; have HB := n5_; clear n0_ n1_ n2_ n3_ n4_ n5_; (try clear hb); (try clear hb2); (try clear hk); (try clear hi); have hcz66_0 : w65.cell? ⟨gb311, 0, none⟩ = some (.int .i64 0) := (blk_cell BK311.out 0).trans rfl; have hcz66_1 : w65.cell? ⟨gb311, 1, none⟩ = some (.int .i64 0) := (blk_cell BK311.out 1).trans rfl; have hcz66_2 : w65.cell? ⟨gb311, 2, none⟩ = some (.int .i64 0) := (blk_cell BK311.out 2).trans rfl; have hcz66_3 : w65.cell? ⟨gb311, 3, none⟩ = some (.int .i64 0) := (blk_cell BK311.out 3).trans rfl; have hcz66_4 : w65.cell? ⟨gb311, 4, none⟩ = some (.int .i64 0) := (blk_cell BK311.out 4).trans rfl; have hfz66_0 := blk_frozen BK311.out 0; have hfz66_1 := blk_frozen BK311.out 1; have hfz66_2 := blk_frozen BK311.out 2; have hfz66_3 := blk_frozen BK311.out 3; have hfz66_4 := blk_frozen BK311.out 4; have hcz67_0 : w65.cell? ⟨gb310, 0, none⟩ = some (.int .i64 0) := (blk_cell BK310.out 0).trans rfl; have hcz67_1 : w65.cell? ⟨gb310, 1, none⟩ = some (.int .i64 0) := (blk_cell BK310.out 1).trans rfl; have hcz67_2 : w65.cell? ⟨gb310, 2, none⟩ = some (.int .i64 0) := (blk_cell BK310.out 2).trans rfl; have hcz67_3 : w65.cell? ⟨gb310, 3, none⟩ = some (.int .i64 0) := (blk_cell BK310.out 3).trans rfl; have hcz67_4 : w65.cell? ⟨gb310, 4, none⟩ = some (.int .i64 0) := (blk_cell BK310.out 4).trans rfl; have hfz67_0 := blk_frozen BK310.out 0; have hfz67_1 := blk_frozen BK310.out 1; have hfz67_2 := blk_frozen BK310.out 2; have hfz67_3 := blk_frozen BK310.out 3; have hfz67_4 := blk_frozen BK310.out 4))
                    refine bodyPost_ret (results_ct rfl _ _ gb310 23 #[.int .i64 0, .int .i64 0, .int .i64 0, .int .i64 0, .int .i64 0] (0, 0) _ rfl (by (with_reducible repeat (first | refine blk_drewN ?_ _ | refine blk_drew ?_ | refine blk_alloc ?_ _)); refine blk_put (cs := #[.int .i64 0, .int .i64 0, .int .i64 0, .int .i64 0, .int .i64 0]) ?_ 4 _ rfl; (with_reducible repeat (first | refine blk_drewN ?_ _ | refine blk_drew ?_ | refine blk_alloc ?_ _)); refine blk_put (cs := #[.int .i64 0, .int .i64 0, .int .i64 0, .int .i64 0, .int .i64 0]) ?_ 3 _ rfl; (with_reducible repeat (first | refine blk_drewN ?_ _ | refine blk_drew ?_ | refine blk_alloc ?_ _)); refine blk_put (cs := #[.int .i64 0, .int .i64 0, .int .i64 0, .int .i64 0, .int .i64 0]) ?_ 2 _ rfl; (with_reducible repeat (first | refine blk_drewN ?_ _ | refine blk_drew ?_ | refine blk_alloc ?_ _)); refine blk_put (cs := #[.int .i64 0, .int .i64 0, .int .i64 0, .int .i64 0, .int .i64 0]) ?_ 1 _ rfl; (with_reducible repeat (first | refine blk_drewN ?_ _ | refine blk_drew ?_ | refine blk_alloc ?_ _)); refine blk_put (cs := #[.int .i64 0, .int .i64 0, .int .i64 0, .int .i64 0, .int .i64 0]) ?_ 0 _ rfl; (with_reducible repeat (first | refine blk_drewN ?_ _ | refine blk_drew ?_ | refine blk_alloc ?_ _)); exact BK310.out) Tryd.underlying23 rfl (by kernel_rfl)) rfl ?_
                    exact ⟨by first | rfl | (simp [errW_none, errW_some] <;> rfl) | (simp [*, errW_none, errW_some] <;> rfl), by repeat (first | (with_reducible first | exact HB.out | apply below_alloc | apply pw_below_drewN | apply below_drew1 | refine below_set ?_ GE310.out | refine below_set ?_ GE311.out | refine below_set ?_ GE326.out) | exact HB.out)⟩
                · rw [if_neg c21] at H
                  exact absurd H (by simp)
              · rw [if_neg c20] at H
                exact absurd H (by simp)
            · rw [if_neg c19] at H
              exact absurd H (by simp)
          · rw [if_neg c18] at H
            exact absurd H (by simp)
        · rw [if_neg c17] at H
          exact absurd H (by simp)
      · rw [if_neg c15] at H
        have c15b0 : (t312 == 0) = false := beq_eq_false_iff_ne.mpr c15
        have c15b1 : (t312 != 0) = true := bne_iff_ne.mpr c15
        simp only [Option.some.injEq, Prod.mk.injEq] at H
        obtain ⟨rfl, rfl, rfl, rfl, rfl, rfl⟩ := H
        go_enter Tryd.func14, Tryd.ntmps14
        go_wp2_with (first | ((with_reducible refine gate_dst (N := 2) rfl ?_); refine box_event ?hg (N := 2) ?hd (cs := #[.int .i64 0, .int .i64 0, .int .i64 0, .int .i64 0, .int .i64 0]) (t := 23) ?hr ?_; (case hd => rfl); (case hg => rfl); (case hr => first | (go_simp; done) | (go_simp; rfl)); intro gb310 hg w68 hbox hb; have n0_ := Aside0.mk (below_step (by repeat (first | (with_reducible first | exact HB.out | apply below_alloc | apply pw_below_drewN | apply below_drew1) | exact HB.out)) hb); have n1_ := Aside0.mk (hbox); have n2_ := Aside0.mk ((by rw [hg]; exact (below_size (by repeat (first | (with_reducible first | exact HB.out | apply below_alloc | apply pw_below_drewN | apply below_drew1) | exact HB.out))) : w.heap.size ≤ gb310)); have n3_ := Aside0.mk ((by rw [hg]; exact (below_size (by repeat (first | (with_reducible first | exact HB.out | apply below_alloc | apply pw_below_drewN | apply below_drew1) | exact HB.out))) : w.heap.size ≤ gb310)); clear HB; have HB := n0_; have BK310 := n1_; have GW310 := n2_; have GE310 := n3_; clear n0_ n1_ n2_ n3_; clear hb hbox hg) | ((with_reducible refine gate_dst (N := 4) rfl ?_); refine box_event ?hg (N := 4) ?hd (cs := #[.int .i64 0, .int .i64 0, .int .i64 0, .int .i64 0, .int .i64 0]) (t := 23) ?hr ?_; (case hd => rfl); (case hg => rfl); (case hr => first | (go_simp; done) | (go_simp; rfl)); intro gb311 hg w69 hbox hb; have n0_ := Aside0.mk (blk_below (g := gb310) (o := .cells #[.int .i64 0, .int .i64 0, .int .i64 0, .int .i64 0, .int .i64 0] 23 (0, 0)) (by (with_reducible repeat (first | refine blk_drewN ?_ _ | refine blk_drew ?_ | refine blk_alloc ?_ _)); exact BK310.out) hb); have n1_ := Aside0.mk (below_step (by repeat (first | (with_reducible first | exact HB.out | apply below_alloc | apply pw_below_drewN | apply below_drew1 | refine below_set ?_ GE310.out) | exact HB.out)) hb); have n2_ := Aside0.mk (hbox); have n3_ := Aside0.mk ((by rw [hg]; exact (below_size (by repeat (first | (with_reducible first | exact HB.out | apply below_alloc | apply pw_below_drewN | apply below_drew1 | refine below_set ?_ GE310.out) | exact HB.out))) : w.heap.size ≤ gb311)); have n4_ := Aside0.mk ((by rw [hg]; exact (below_size (by repeat (first | (with_reducible first | exact HB.out | apply below_alloc | apply pw_below_drewN | apply below_drew1 | refine below_set ?_ GE310.out) | exact HB.out))) : w.heap.size ≤ gb311)); have n5_ := Aside0.mk ((by rw [hg]; exact Nat.ne_of_lt (blk_lt (g := gb310) (o := .cells #[.int .i64 0, .int .i64 0, .int .i64 0, .int .i64 0, .int .i64 0] 23 (0, 0)) (by (with_reducible repeat (first | refine blk_drewN ?_ _ | refine blk_drew ?_ | refine blk_alloc ?_ _)); exact BK310.out)) : gb310 ≠ gb311)); have n6_ := Aside0.mk ((by rw [hg]; exact Nat.ne_of_gt (blk_lt (g := gb310) (o := .cells #[.int .i64 0, .int .i64 0, .int .i64 0, .int .i64 0, .int .i64 0] 23 (0, 0)) (by (with_reducible repeat (first | refine blk_drewN ?_ _ | refine blk_drew ?_ | refine blk_alloc ?_ _)); exact BK310.out)) : gb311 ≠ gb310)); clear BK310; clear HB; have BK310 := n0_; have HB := n1_; have BK311 := n2_; have GW311 := n3_; have GE311 := n4_; have NB310_311 := n5_; have NB311_310 := n6_; clear n0_ n1_ n2_ n3_ n4_ n5_ n6_; clear hb hbox hg; have hnb70 := NB311_310.out; have hnc70 := NB310_311.out; have hcz71_0 : w69.cell? ⟨gb311, 0, none⟩ = some (.int .i64 0) := (blk_cell BK311.out 0).trans rfl; have hcz71_1 : w69.cell? ⟨gb311, 1, none⟩ = some (.int .i64 0) := (blk_cell BK311.out 1).trans rfl; have hcz71_2 : w69.cell? ⟨gb311, 2, none⟩ = some (.int .i64 0) := (blk_cell BK311.out 2).trans rfl; have hcz71_3 : w69.cell? ⟨gb311, 3, none⟩ = some (.int .i64 0) := (blk_cell BK311.out 3).trans rfl; have hcz71_4 : w69.cell? ⟨gb311, 4, none⟩ = some (.int .i64 0) := (blk_cell BK311.out 4).trans rfl; have hfz71_0 := blk_frozen BK311.out 0; have hfz71_1 := blk_frozen BK311.out 1; have hfz71_2 := blk_frozen BK311.out 2; have hfz71_3 := blk_frozen BK311.out 3; have hfz71_4 := blk_frozen BK311.out 4) | ((with_reducible refine gate_callee (f := 21) rfl ?_); refine goesL_ (some 20) rfl rfl Tryd.func21 (by kernel_rfl) rfl #[.slice A0 l0.length c0] rfl (by (try simp only [List.map_toArray, List.map_cons, List.map_nil]); first | done | rfl | (simp only [List.length_drop, List.length_take]; rfl)) ?_; (with_reducible refine (wayfinderref02_Sum.calls k _ _ l0 t312 _ ?side1 ?side2 A14.out).mono ?_); (case side1 => exact Kd.C_below HR0.out (by repeat (first | (with_reducible first | exact HB.out | apply below_alloc | apply pw_below_drewN | apply below_drew1 | refine below_set ?_ GE310.out | refine below_set ?_ GE311.out) | exact HB.out))); (case side2 => exact HC0.out); rintro e w' ⟨rfl, ⟨nd, rfl⟩⟩; refine ⟨_, rfl, ?_⟩; have hcz72_0 : w69.cell? ⟨gb310, 0, none⟩ = some (.int .i64 0) := (blk_cell BK310.out 0).trans rfl; have hcz72_1 : w69.cell? ⟨gb310, 1, none⟩ = some (.int .i64 0) := (blk_cell BK310.out 1).trans rfl; have hcz72_2 : w69.cell? ⟨gb310, 2, none⟩ = some (.int .i64 0) := (blk_cell BK310.out 2).trans rfl; have hcz72_3 : w69.cell? ⟨gb310, 3, none⟩ = some (.int .i64 0) := (blk_cell BK310.out 3).trans rfl; have hcz72_4 : w69.cell? ⟨gb310, 4, none⟩ = some (.int .i64 0) := (blk_cell BK310.out 4).trans rfl; have hfz72_0 := blk_frozen BK310.out 0; have hfz72_1 := blk_frozen BK310.out 1; have hfz72_2 := blk_frozen BK310.out 2; have hfz72_3 := blk_frozen BK310.out 3; have hfz72_4 := blk_frozen BK310.out 4))
        refine bodyPost_ret (results_ct rfl _ _ gb310 23 #[.int .i64 0, .int .i64 0, .int .i64 0, .int .i64 0, .int .i64 0] (0, 0) _ rfl (by (with_reducible repeat (first | refine blk_drewN ?_ _ | refine blk_drew ?_ | refine blk_alloc ?_ _)); refine blk_put (cs := #[.int .i64 0, .int .i64 0, .int .i64 0, .int .i64 0, .int .i64 0]) ?_ 4 _ rfl; (with_reducible repeat (first | refine blk_drewN ?_ _ | refine blk_drew ?_ | refine blk_alloc ?_ _)); refine blk_put (cs := #[.int .i64 0, .int .i64 0, .int .i64 0, .int .i64 0, .int .i64 0]) ?_ 3 _ rfl; (with_reducible repeat (first | refine blk_drewN ?_ _ | refine blk_drew ?_ | refine blk_alloc ?_ _)); refine blk_put (cs := #[.int .i64 0, .int .i64 0, .int .i64 0, .int .i64 0, .int .i64 0]) ?_ 2 _ rfl; (with_reducible repeat (first | refine blk_drewN ?_ _ | refine blk_drew ?_ | refine blk_alloc ?_ _)); refine blk_put (cs := #[.int .i64 0, .int .i64 0, .int .i64 0, .int .i64 0, .int .i64 0]) ?_ 1 _ rfl; (with_reducible repeat (first | refine blk_drewN ?_ _ | refine blk_drew ?_ | refine blk_alloc ?_ _)); refine blk_put (cs := #[.int .i64 0, .int .i64 0, .int .i64 0, .int .i64 0, .int .i64 0]) ?_ 0 _ rfl; (with_reducible repeat (first | refine blk_drewN ?_ _ | refine blk_drew ?_ | refine blk_alloc ?_ _)); refine blk_far ?_ NB310_311.out _; (with_reducible repeat (first | refine blk_drewN ?_ _ | refine blk_drew ?_ | refine blk_alloc ?_ _)); refine blk_far ?_ NB310_311.out _; (with_reducible repeat (first | refine blk_drewN ?_ _ | refine blk_drew ?_ | refine blk_alloc ?_ _)); refine blk_far ?_ NB310_311.out _; (with_reducible repeat (first | refine blk_drewN ?_ _ | refine blk_drew ?_ | refine blk_alloc ?_ _)); refine blk_far ?_ NB310_311.out _; (with_reducible repeat (first | refine blk_drewN ?_ _ | refine blk_drew ?_ | refine blk_alloc ?_ _)); refine blk_far ?_ NB310_311.out _; (with_reducible repeat (first | refine blk_drewN ?_ _ | refine blk_drew ?_ | refine blk_alloc ?_ _)); exact BK310.out) Tryd.underlying23 rfl (by kernel_rfl)) rfl ?_
        exact ⟨by first | rfl | (simp [errW_none, errW_some] <;> rfl) | (simp [*, errW_none, errW_some] <;> rfl), by repeat (first | (with_reducible first | exact HB.out | apply below_alloc | apply pw_below_drewN | apply below_drew1 | refine below_set ?_ GE310.out | refine below_set ?_ GE311.out) | exact HB.out)⟩

end Go.Proofs.YtkidokbeabmpmaaDoor.All
