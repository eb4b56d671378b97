/- Contracts of Go functions that this seat comes to, each with a plain function that tells its answers; conditions: those that each contract names. Written by a program of this session (wip/print) over the print words. -/
import Derived.Test.YtkidokbeabmpmaaDoorAllx3
import Derived.Test.YtkidokbeabmpmaaDoorAllx0
import Derived.Test.YtkidokbeabmpmaaDoorAllx2
import Derived.Test.YtkidokbeabmpmaaDoorAllx10
namespace Go.Proofs.YtkidokbeabmpmaaDoor.All
open Go.RowKit Go.Proofs.YtkidokbeabmpmaaDoorW.PrintWords Go.Proofs.YtkidokbeabmpmaaDoorW.PrintLast Go.Proofs.YtkidokbeabmpmaaDoorW.PrintMore
attribute [local go_sem] max2_int min2_int max_two min_two max_three min_three max_four min_four   -- for this text's walks alone
set_option linter.unusedVariables false
set_option linter.unusedSimpArgs false

/-! ### packet_Get: function 13 -/
def packet_Get.f (k : Nat) (l0 : List Int) : Option (Int × Int × Int × Int × Int × Int) := if (l0.length : Int) < 18 then (some (0, 0, 0, 0, 0, 3)) else (if (l0.length : Int) > 18 then (some (0, 0, 0, 0, 0, 2)) else ((octets_Sum.f l0).bind fun t285 => (if t285 = 0 then ((octets_GetAll.f k l0 (([4, 4, 4, 2, 2] : List Int))).bind fun bt289 => (if bt289.2.2 = 0 then (if 0 < (bt289.1.length : Int) then (if 1 < (bt289.1.length : Int) then (if 2 < (bt289.1.length : Int) then (if 3 < (bt289.1.length : Int) then (if 4 < (bt289.1.length : Int) then ((packet_May.f (rd bt289.1 0) (rd bt289.1 1) (rd bt289.1 2) (rd bt289.1 3) (rd bt289.1 4)).bind fun t300 => (if t300 = true then (some (rd bt289.1 0, rd bt289.1 1, rd bt289.1 2, rd bt289.1 3, rd bt289.1 4, 0)) else (some (0, 0, 0, 0, 0, 2)))) else (none)) else (none)) else (none)) else (none)) else (none)) else (some (0, 0, 0, 0, 0, bt289.2.2)))) else (some (0, 0, 0, 0, 0, 4)))))
theorem packet_Get.mono : ∀ a0 k, LeO (packet_Get.f k a0) (packet_Get.f (k + 1) a0) := by
  intro a0 k
  unfold packet_Get.f
  repeat' first
      | (with_reducible exact octets_GetAll.mono _ _ _)
      | (with_reducible exact LeO.refl _)
      | (with_reducible exact LeO.none _)
      | (with_reducible refine LeO.ite ?_ ?_)
      | (with_reducible refine LeO.bind ?_ (fun _ => ?_))
      | exact octets_GetAll.mono _ _ _
      | exact LeO.none _
      | refine LeO.ite ?_ ?_
      | refine LeO.bind ?_ (fun _ => ?_)
def packet_Get.T10 : Bool × List (List Nat × List Nat) := (true, [([], []), ([0], [0]), ([1], [1]), ([], []), ([3], [3]), ([4], [4]), ([], []), ([6], [6]), ([7], [7]), ([], []), ([9], [9]), ([10], [10]), ([], []), ([12], [12]), ([13], [13]), ([2, 5, 8, 11, 14], [2, 5, 8, 11, 14]), ([], []), ([16, 15, 0, 1, 2, 3, 4, 5, 6, 7, 8, 9, 10, 11, 12, 13, 14, 15, 16], [15, 16])])
def packet_Get.B10 : List Nat := [0, 1, 3, 0, 8, 24, 0, 64, 192, 0, 512, 1536, 0, 4096, 12288, 32767, 0, 131071]
theorem packet_Get.tab10 : rtab .any (opsOf Tryd.f13 10) = packet_Get.T10 := by kernel_rfl
theorem packet_Get.bits10 : waitsOk packet_Get.T10.2 packet_Get.B10 = true := by kernel_rfl
set_option maxHeartbeats 8000000 in
set_option maxRecDepth 100000 in
theorem packet_Get.calls (k : Nat) (A0 : Option Addr) (c0 : Nat) (l0 : List Int) (r1 : Int) (r2 : Int) (r3 : Int) (r4 : Int) (r5 : Int) (r6 : Int) (w : World) (hr0 : Kd.C (Kd.int .u8) w A0 l0.length l0) (hc0 : l0.length ≤ c0) (hG : Glob w) (h : packet_Get.f k l0 = some (r1, r2, r3, r4, r5, r6)) :
    Calls Tryd.prog 13 #[.slice A0 l0.length c0] w fun e w' => e = .returned (.tuple #[.agg #[.int .i64 r1, .int .i64 r2, .int .i64 r3, .int .i64 r4, .int .i64 r5], .int .i64 r6]) ∧ Below w.heap.size w w' := by
  have hu23 := Tryd.underlying23
  have HR0 := Aside0.mk hr0
  have HC0 := Aside0.mk hc0
  clear hr0 hc0
  have HB := Aside0.mk (Below.refl w.heap.size w)
  have H : (if (l0.length : Int) < 18 then (some (0, 0, 0, 0, 0, 3)) else (if (l0.length : Int) > 18 then (some (0, 0, 0, 0, 0, 2)) else ((octets_Sum.f l0).bind fun t285 => (if t285 = 0 then ((octets_GetAll.f k l0 (([4, 4, 4, 2, 2] : List Int))).bind fun bt289 => (if bt289.2.2 = 0 then (if 0 < (bt289.1.length : Int) then (if 1 < (bt289.1.length : Int) then (if 2 < (bt289.1.length : Int) then (if 3 < (bt289.1.length : Int) then (if 4 < (bt289.1.length : Int) then ((packet_May.f (rd bt289.1 0) (rd bt289.1 1) (rd bt289.1 2) (rd bt289.1 3) (rd bt289.1 4)).bind fun t300 => (if t300 = true then (some (rd bt289.1 0, rd bt289.1 1, rd bt289.1 2, rd bt289.1 3, rd bt289.1 4, 0)) else (some (0, 0, 0, 0, 0, 2)))) else (none)) else (none)) else (none)) else (none)) else (none)) else (some (0, 0, 0, 0, 0, bt289.2.2)))) else (some (0, 0, 0, 0, 0, 4)))))) = some (r1, r2, r3, r4, r5, r6) := h
  clear h
  by_cases c2 : (l0.length : Int) < 18
  · rw [if_pos c2] at H
    have c2b0 : decide ((l0.length : Int) < 18) = true := decide_eq_true c2
    have c2b1 : decide (l0.length < 18) = true := decide_eq_true (by omega)
    clear c2
    simp only [Option.some.injEq, Prod.mk.injEq] at H
    obtain ⟨rfl, rfl, rfl, rfl, rfl, rfl⟩ := H
    go_enter Tryd.func13, Tryd.ntmps13
    go_wp2_with (first | ((with_reducible refine gate_dst (N := 2) rfl ?_); refine box_event ?hg (N := 2) ?hd (cs := #[.int .i64 0, .int .i64 0, .int .i64 0, .int .i64 0, .int .i64 0]) (t := 23) ?hr ?_; (case hd => rfl); (case hg => rfl); (case hr => first | (go_simp; done) | (go_simp; rfl)); intro gb284 hg w3 hbox hb; have n0_ := Aside0.mk (below_step (by repeat (first | (with_reducible first | exact HB.out | apply below_alloc | apply pw_below_drewN | apply below_drew1) | exact HB.out)) hb); have n1_ := Aside0.mk (hbox); have n2_ := Aside0.mk ((by rw [hg]; exact (below_size (by repeat (first | (with_reducible first | exact HB.out | apply below_alloc | apply pw_below_drewN | apply below_drew1) | exact HB.out))) : w.heap.size ≤ gb284)); have n3_ := Aside0.mk ((by rw [hg]; exact (below_size (by repeat (first | (with_reducible first | exact HB.out | apply below_alloc | apply pw_below_drewN | apply below_drew1) | exact HB.out))) : w.heap.size ≤ gb284)); clear HB; have HB := n0_; have BK284 := n1_; have GW284 := n2_; have GE284 := n3_; clear n0_ n1_ n2_ n3_; clear hb hbox hg; have hcz4_0 : w3.cell? ⟨gb284, 0, none⟩ = some (.int .i64 0) := (blk_cell BK284.out 0).trans rfl; have hcz4_1 : w3.cell? ⟨gb284, 1, none⟩ = some (.int .i64 0) := (blk_cell BK284.out 1).trans rfl; have hcz4_2 : w3.cell? ⟨gb284, 2, none⟩ = some (.int .i64 0) := (blk_cell BK284.out 2).trans rfl; have hcz4_3 : w3.cell? ⟨gb284, 3, none⟩ = some (.int .i64 0) := (blk_cell BK284.out 3).trans rfl; have hcz4_4 : w3.cell? ⟨gb284, 4, none⟩ = some (.int .i64 0) := (blk_cell BK284.out 4).trans rfl; have hfz4_0 := blk_frozen BK284.out 0; have hfz4_1 := blk_frozen BK284.out 1; have hfz4_2 := blk_frozen BK284.out 2; have hfz4_3 := blk_frozen BK284.out 3; have hfz4_4 := blk_frozen BK284.out 4))
    refine bodyPost_ret (results_ct rfl _ _ gb284 23 #[.int .i64 0, .int .i64 0, .int .i64 0, .int .i64 0, .int .i64 0] (0, 0) _ rfl (by (with_reducible repeat (first | refine blk_drewN ?_ _ | refine blk_drew ?_ | refine blk_alloc ?_ _)); refine blk_put (cs := #[.int .i64 0, .int .i64 0, .int .i64 0, .int .i64 0, .int .i64 0]) ?_ 4 _ rfl; (with_reducible repeat (first | refine blk_drewN ?_ _ | refine blk_drew ?_ | refine blk_alloc ?_ _)); refine blk_put (cs := #[.int .i64 0, .int .i64 0, .int .i64 0, .int .i64 0, .int .i64 0]) ?_ 3 _ rfl; (with_reducible repeat (first | refine blk_drewN ?_ _ | refine blk_drew ?_ | refine blk_alloc ?_ _)); refine blk_put (cs := #[.int .i64 0, .int .i64 0, .int .i64 0, .int .i64 0, .int .i64 0]) ?_ 2 _ rfl; (with_reducible repeat (first | refine blk_drewN ?_ _ | refine blk_drew ?_ | refine blk_alloc ?_ _)); refine blk_put (cs := #[.int .i64 0, .int .i64 0, .int .i64 0, .int .i64 0, .int .i64 0]) ?_ 1 _ rfl; (with_reducible repeat (first | refine blk_drewN ?_ _ | refine blk_drew ?_ | refine blk_alloc ?_ _)); refine blk_put (cs := #[.int .i64 0, .int .i64 0, .int .i64 0, .int .i64 0, .int .i64 0]) ?_ 0 _ rfl; (with_reducible repeat (first | refine blk_drewN ?_ _ | refine blk_drew ?_ | refine blk_alloc ?_ _)); exact BK284.out) Tryd.underlying23 rfl (by kernel_rfl)) rfl ?_
    exact ⟨by first | rfl | (simp [errW_none, errW_some] <;> rfl) | (simp [*, errW_none, errW_some] <;> rfl), by repeat (first | (with_reducible first | exact HB.out | apply below_alloc | apply pw_below_drewN | apply below_drew1 | refine below_set ?_ GE284.out) | exact HB.out)⟩
  · rw [if_neg c2] at H
    have c2b0 : decide ((l0.length : Int) < 18) = false := decide_eq_false c2
    have c2b1 : decide (l0.length < 18) = false := decide_eq_false (by omega)
    clear c2
    by_cases c5 : (l0.length : Int) > 18
    · rw [if_pos c5] at H
      have c5b0 : decide (18 < (l0.length : Int)) = true := decide_eq_true c5
      have c5b1 : decide (18 < l0.length) = true := decide_eq_true (by omega)
      clear c5
      simp only [Option.some.injEq, Prod.mk.injEq] at H
      obtain ⟨rfl, rfl, rfl, rfl, rfl, rfl⟩ := H
      go_enter Tryd.func13, Tryd.ntmps13
      go_wp2_with (first | ((with_reducible refine gate_dst (N := 2) rfl ?_); refine box_event ?hg (N := 2) ?hd (cs := #[.int .i64 0, .int .i64 0, .int .i64 0, .int .i64 0, .int .i64 0]) (t := 23) ?hr ?_; (case hd => rfl); (case hg => rfl); (case hr => first | (go_simp; done) | (go_simp; rfl)); intro gb284 hg w6 hbox hb; have n0_ := Aside0.mk (below_step (by repeat (first | (with_reducible first | exact HB.out | apply below_alloc | apply pw_below_drewN | apply below_drew1) | exact HB.out)) hb); have n1_ := Aside0.mk (hbox); have n2_ := Aside0.mk ((by rw [hg]; exact (below_size (by repeat (first | (with_reducible first | exact HB.out | apply below_alloc | apply pw_below_drewN | apply below_drew1) | exact HB.out))) : w.heap.size ≤ gb284)); have n3_ := Aside0.mk ((by rw [hg]; exact (below_size (by repeat (first | (with_reducible first | exact HB.out | apply below_alloc | apply pw_below_drewN | apply below_drew1) | exact HB.out))) : w.heap.size ≤ gb284)); clear HB; have HB := n0_; have BK284 := n1_; have GW284 := n2_; have GE284 := n3_; clear n0_ n1_ n2_ n3_; clear hb hbox hg; have hcz7_0 : w6.cell? ⟨gb284, 0, none⟩ = some (.int .i64 0) := (blk_cell BK284.out 0).trans rfl; have hcz7_1 : w6.cell? ⟨gb284, 1, none⟩ = some (.int .i64 0) := (blk_cell BK284.out 1).trans rfl; have hcz7_2 : w6.cell? ⟨gb284, 2, none⟩ = some (.int .i64 0) := (blk_cell BK284.out 2).trans rfl; have hcz7_3 : w6.cell? ⟨gb284, 3, none⟩ = some (.int .i64 0) := (blk_cell BK284.out 3).trans rfl; have hcz7_4 : w6.cell? ⟨gb284, 4, none⟩ = some (.int .i64 0) := (blk_cell BK284.out 4).trans rfl; have hfz7_0 := blk_frozen BK284.out 0; have hfz7_1 := blk_frozen BK284.out 1; have hfz7_2 := blk_frozen BK284.out 2; have hfz7_3 := blk_frozen BK284.out 3; have hfz7_4 := blk_frozen BK284.out 4))
      refine bodyPost_ret (results_ct rfl _ _ gb284 23 #[.int .i64 0, .int .i64 0, .int .i64 0, .int .i64 0, .int .i64 0] (0, 0) _ rfl (by (with_reducible repeat (first | refine blk_drewN ?_ _ | refine blk_drew ?_ | refine blk_alloc ?_ _)); refine blk_put (cs := #[.int .i64 0, .int .i64 0, .int .i64 0, .int .i64 0, .int .i64 0]) ?_ 4 _ rfl; (with_reducible repeat (first | refine blk_drewN ?_ _ | refine blk_drew ?_ | refine blk_alloc ?_ _)); refine blk_put (cs := #[.int .i64 0, .int .i64 0, .int .i64 0, .int .i64 0, .int .i64 0]) ?_ 3 _ rfl; (with_reducible repeat (first | refine blk_drewN ?_ _ | refine blk_drew ?_ | refine blk_alloc ?_ _)); refine blk_put (cs := #[.int .i64 0, .int .i64 0, .int .i64 0, .int .i64 0, .int .i64 0]) ?_ 2 _ rfl; (with_reducible repeat (first | refine blk_drewN ?_ _ | refine blk_drew ?_ | refine blk_alloc ?_ _)); refine blk_put (cs := #[.int .i64 0, .int .i64 0, .int .i64 0, .int .i64 0, .int .i64 0]) ?_ 1 _ rfl; (with_reducible repeat (first | refine blk_drewN ?_ _ | refine blk_drew ?_ | refine blk_alloc ?_ _)); refine blk_put (cs := #[.int .i64 0, .int .i64 0, .int .i64 0, .int .i64 0, .int .i64 0]) ?_ 0 _ rfl; (with_reducible repeat (first | refine blk_drewN ?_ _ | refine blk_drew ?_ | refine blk_alloc ?_ _)); exact BK284.out) Tryd.underlying23 rfl (by kernel_rfl)) rfl ?_
      exact ⟨by first | rfl | (simp [errW_none, errW_some] <;> rfl) | (simp [*, errW_none, errW_some] <;> rfl), by repeat (first | (with_reducible first | exact HB.out | apply below_alloc | apply pw_below_drewN | apply below_drew1 | refine below_set ?_ GE284.out) | exact HB.out)⟩
    · rw [if_neg c5] at H
      have c5b0 : decide (18 < (l0.length : Int)) = false := decide_eq_false c5
      have c5b1 : decide (18 < l0.length) = false := decide_eq_false (by omega)
      clear c5
      replace H := Option.bind_eq_some_iff.mp H
      obtain ⟨t285, A80, H⟩ := H
      replace H : (if t285 = 0 then ((octets_GetAll.f k l0 (([4, 4, 4, 2, 2] : List Int))).bind fun bt289 => (if bt289.2.2 = 0 then (if 0 < (bt289.1.length : Int) then (if 1 < (bt289.1.length : Int) then (if 2 < (bt289.1.length : Int) then (if 3 < (bt289.1.length : Int) then (if 4 < (bt289.1.length : Int) then ((packet_May.f (rd bt289.1 0) (rd bt289.1 1) (rd bt289.1 2) (rd bt289.1 3) (rd bt289.1 4)).bind fun t300 => (if t300 = true then (some (rd bt289.1 0, rd bt289.1 1, rd bt289.1 2, rd bt289.1 3, rd bt289.1 4, 0)) else (some (0, 0, 0, 0, 0, 2)))) else (none)) else (none)) else (none)) else (none)) else (none)) else (some (0, 0, 0, 0, 0, bt289.2.2)))) else (some (0, 0, 0, 0, 0, 4))) = some (r1, r2, r3, r4, r5, r6) := H
      have A8 := Aside0.mk A80
      clear A80
      by_cases c9 : t285 = 0
      · rw [if_pos c9] at H
        have c9b0 : (t285 == 0) = true := beq_iff_eq.mpr c9
        have c9b1 : (t285 != 0) = false := bne_eq_false_iff_eq.mpr c9
        clear c9
        obtain ⟨y286, hy286⟩ : ∃ y_ : List Int, y_ = (([4, 4, 4, 2, 2] : List Int)) := ⟨_, rfl⟩
        replace H : ((octets_GetAll.f k l0 y286).bind fun bt289 => (if bt289.2.2 = 0 then (if 0 < (bt289.1.length : Int) then (if 1 < (bt289.1.length : Int) then (if 2 < (bt289.1.length : Int) then (if 3 < (bt289.1.length : Int) then (if 4 < (bt289.1.length : Int) then ((packet_May.f (rd bt289.1 0) (rd bt289.1 1) (rd bt289.1 2) (rd bt289.1 3) (rd bt289.1 4)).bind fun t300 => (if t300 = true then (some (rd bt289.1 0, rd bt289.1 1, rd bt289.1 2, rd bt289.1 3, rd bt289.1 4, 0)) else (some (0, 0, 0, 0, 0, 2)))) else (none)) else (none)) else (none)) else (none)) else (none)) else (some (0, 0, 0, 0, 0, bt289.2.2)))) = some (r1, r2, r3, r4, r5, r6) := by first | (rw [hy286]; with_reducible exact H) | (have H2_ := (Option.bind_some _ _).symm.trans H; rw [hy286]; with_reducible exact H2_) | (have H2_ := (Option.bind_some _ _).symm.trans H; with_reducible exact H2_) | with_reducible exact H | (rw [hy286]; exact H) | exact H
        have Ny286 := Aside0.mk hy286
        clear hy286
        replace H := Option.bind_eq_some_iff.mp H
        obtain ⟨⟨t289, t292, t293⟩, A100, H⟩ := H
        replace H : (if t293 = 0 then (if 0 < (t289.length : Int) then (if 1 < (t289.length : Int) then (if 2 < (t289.length : Int) then (if 3 < (t289.length : Int) then (if 4 < (t289.length : Int) then ((packet_May.f (rd t289 0) (rd t289 1) (rd t289 2) (rd t289 3) (rd t289 4)).bind fun t300 => (if t300 = true then (some (rd t289 0, rd t289 1, rd t289 2, rd t289 3, rd t289 4, 0)) else (some (0, 0, 0, 0, 0, 2)))) else (none)) else (none)) else (none)) else (none)) else (none)) else (some (0, 0, 0, 0, 0, t293))) = some (r1, r2, r3, r4, r5, r6) := H
        have A10 := Aside0.mk A100
        clear A100
        by_cases c11 : t293 = 0
        · rw [if_pos c11] at H
          have c11b0 : (t293 == 0) = true := beq_iff_eq.mpr c11
          have c11b1 : (t293 != 0) = false := bne_eq_false_iff_eq.mpr c11
          clear c11
          by_cases c12 : 0 < (t289.length : Int)
          · rw [if_pos c12] at H
            have c12b0 : decide (0 < (t289.length : Int)) = true := decide_eq_true c12
            have c12b1 : decide (0 < t289.length) = true := decide_eq_true (by omega)
            clear c12
            by_cases c13 : 1 < (t289.length : Int)
            · rw [if_pos c13] at H
              have c13b0 : decide (1 < (t289.length : Int)) = true := decide_eq_true c13
              have c13b1 : decide (1 < t289.length) = true := decide_eq_true (by omega)
              clear c13
              by_cases c14 : 2 < (t289.length : Int)
              · rw [if_pos c14] at H
                have c14b0 : decide (2 < (t289.length : Int)) = true := decide_eq_true c14
                have c14b1 : decide (2 < t289.length) = true := decide_eq_true (by omega)
                clear c14
                by_cases c15 : 3 < (t289.length : Int)
                · rw [if_pos c15] at H
                  have c15b0 : decide (3 < (t289.length : Int)) = true := decide_eq_true c15
                  have c15b1 : decide (3 < t289.length) = true := decide_eq_true (by omega)
                  clear c15
                  by_cases c16 : 4 < (t289.length : Int)
                  · rw [if_pos c16] at H
                    have c16b0 : decide (4 < (t289.length : Int)) = true := decide_eq_true c16
                    have c16b1 : decide (4 < t289.length) = true := decide_eq_true (by omega)
                    clear c16
                    replace H := Option.bind_eq_some_iff.mp H
                    obtain ⟨t300, A170, H⟩ := H
                    replace H : (if t300 = true then (some (rd t289 0, rd t289 1, rd t289 2, rd t289 3, rd t289 4, 0)) else (some (0, 0, 0, 0, 0, 2))) = some (r1, r2, r3, r4, r5, r6) := H
                    have A17 := Aside0.mk A170
                    clear A170
                    by_cases c18 : t300 = true
                    · subst c18
                      have H1 : (some (rd t289 0, rd t289 1, rd t289 2, rd t289 3, rd t289 4, 0)) = some (r1, r2, r3, r4, r5, r6) := by rw [if_pos rfl] at H; exact H
                      clear H
                      have H := H1
                      clear H1
                      simp only [Option.some.injEq, Prod.mk.injEq] at H
                      obtain ⟨rfl, rfl, rfl, rfl, rfl, rfl⟩ := H
                      go_enter Tryd.func13, Tryd.ntmps13
                      try go_wp2_with (first | ((with_reducible refine gate_dst (N := 2) rfl ?_); refine box_event ?hg (N := 2) ?hd (cs := #[.int .i64 0, .int .i64 0, .int .i64 0, .int .i64 0, .int .i64 0]) (t := 23) ?hr ?_; (case hd => rfl); (case hg => rfl); (case hr => first | (go_simp; done) | (go_simp; rfl)); intro gb284 hg w19 hbox hb; have n0_ := Aside0.mk (below_step (by repeat (first | (with_reducible first | exact HB.out | apply below_alloc | apply pw_below_drewN | apply below_drew1) | exact HB.out)) hb); have n1_ := Aside0.mk (hbox); have n2_ := Aside0.mk ((by rw [hg]; exact (below_size (by repeat (first | (with_reducible first | exact HB.out | apply below_alloc | apply pw_below_drewN | apply below_drew1) | exact HB.out))) : w.heap.size ≤ gb284)); have n3_ := Aside0.mk ((by rw [hg]; exact (below_size (by repeat (first | (with_reducible first | exact HB.out | apply below_alloc | apply pw_below_drewN | apply below_drew1) | exact HB.out))) : w.heap.size ≤ gb284)); clear HB; have HB := n0_; have BK284 := n1_; have GW284 := n2_; have GE284 := n3_; clear n0_ n1_ n2_ n3_; clear hb hbox hg) | ((with_reducible refine gate_callee (f := 17) rfl ?_); refine goesL_ (some 20) rfl rfl Tryd.func17 (by kernel_rfl) rfl #[.slice A0 l0.length c0] rfl (by (try simp only [List.map_toArray, List.map_cons, List.map_nil]); first | done | rfl | (simp only [List.length_drop, List.length_take]; rfl)) ?_; (with_reducible refine (octets_Sum.calls _ _ l0 t285 _ ?side1 ?side2 A8.out).mono ?_); (case side1 => repeat (first | exact (Kd.C_below HR0.out HB.out) | (with_reducible refine Kd.C_alloc ?_ _) | (with_reducible refine Kd.C_drewN ?_ _) | (with_reducible refine Kd.C_drew ?_))); (case side2 => exact HC0.out); rintro e w' ⟨rfl, ⟨nd, rfl⟩⟩; refine ⟨_, rfl, ?_⟩; (try (rw [drewN_self w19]; generalize hq_ : World.drewN w19 _ = w19; have n0_ : Aside0 (w19.heap[gb284]? = some (.cells #[.int .i64 0, .int .i64 0, .int .i64 0, .int .i64 0, .int .i64 0] 23 (0, 0))) := ⟨by rw [← hq_]; exact (by (with_reducible repeat (first | refine blk_drewN ?_ _ | refine blk_drew ?_ | refine blk_alloc ?_ _)); exact BK284.out)⟩; have n1_ : Aside0 (Below w.heap.size w w19) := ⟨by rw [← hq_]; exact (by repeat (first | (with_reducible first | exact HB.out | apply below_alloc | apply pw_below_drewN | apply below_drew1 | refine below_set ?_ GE284.out) | exact HB.out))⟩; clear BK284 HB hq_; have BK284 := n0_; have HB := n1_; clear n0_ n1_))) | ((with_reducible refine gate_callee (f := 22) rfl ?_); refine goesL_ (some 26) rfl rfl Tryd.func22 (by kernel_rfl) rfl #[.slice A0 l0.length c0, .slice (some ⟨0, 0, none⟩) 5 5] rfl (by (try simp only [List.map_toArray, List.map_cons, List.map_nil]); first | done | rfl | (simp only [List.length_drop, List.length_take]; rfl)) ?_; (refine calls_of_args ?sideA ((octets_GetAll.calls k (fun k_ => k_ < w.heap.size) A0 c0 l0 (some ⟨0, 0, none⟩) 5 y286 t289 t292 t293 _ ?side1 ?side2 ?side3 A10.out).mono ?_)); (case sideA => (rw [Ny286.out]; rfl)); (case side1 => exact Kd.V_mk HC0.out (Kd.F_below (Kd.C_F (Kd.heap_int .u8) HR0.out) (by repeat (first | (with_reducible first | exact HB.out | apply below_alloc | apply pw_below_drewN | apply below_drew1 | refine below_set ?_ GE284.out) | exact HB.out)))); (case side2 => exact (hG.below rfl (by repeat (first | (with_reducible first | exact HB.out | apply below_alloc | apply pw_below_drewN | apply below_drew1 | refine below_set ?_ GE284.out | refine below_set ?_ GE299.out) | exact HB.out))).C Ny286.out); (case side3 => (rw [Ny286.out]; decide)); rintro e w23 ⟨v290, rfl, ho0, hb⟩; refine ⟨_, rfl, ?_⟩; have n1_ := Aside0.mk (Kd.R_lower (Kd.R_mono (ok' := fun k_ => True) ho0 (fun _ hk_ => trivial)) (below_size (by repeat (first | (with_reducible first | exact HB.out | apply below_alloc | apply pw_below_drewN | apply below_drew1 | refine below_set ?_ GE284.out | refine below_set ?_ GE299.out) | exact HB.out)))); have n2_ := Aside0.mk (blk_below (g := gb284) (o := .cells #[.int .i64 0, .int .i64 0, .int .i64 0, .int .i64 0, .int .i64 0] 23 (0, 0)) (by (with_reducible repeat (first | refine blk_drewN ?_ _ | refine blk_drew ?_ | refine blk_alloc ?_ _)); exact BK284.out) hb); have n3_ := Aside0.mk (below_step (by repeat (first | (with_reducible first | exact HB.out | apply below_alloc | apply pw_below_drewN | apply below_drew1 | refine below_set ?_ GE284.out) | exact HB.out)) hb); clear BK284; clear HB; have HO291 := n1_; have BK284 := n2_; have HB := n3_; clear n1_ n2_ n3_; (try clear hb); (try clear hb2); (try clear hk); (try clear hi); (try clear ho0)))
                      have n1_ := Aside0.mk (Kd.R_drew HO291.out)
                      have n2_ := Aside0.mk (blk_drew BK284.out)
                      have n3_ := Aside0.mk (below_drew1 HB.out)
                      clear HO291
                      clear BK284
                      clear HB
                      have HO291 := n1_
                      have BK284 := n2_
                      have HB := n3_
                      clear n1_ n2_ n3_
                      obtain ⟨Ao25, co25, eo25⟩ := Kd.R_slice HO291.out
                      (first | subst eo25 | (injection eo25 with f1_ f2_ f3_; have f4_ := f1_.symm; have f5_ := f3_.symm; clear f1_ f2_ f3_; subst f4_; subst f5_))
                      have p294 : 0 ≤ (0 : Int) := (by omega)
                      have q294 : 0 < (t289.length : Int) := of_decide_eq_true (by first | (with_reducible assumption) | assumption)
                      obtain ⟨ad294, e294, hx294_0⟩ := Kd.at_int (Kd.R_reads' HO291.out).2.2 0 p294 q294
                      cases e294
                      have qi294 : (0 < t289.length) = True := eq_true (by omega)
                      (try rw [show ((0 : Int)).toNat = 0 from rfl] at hx294_0)
                      (try rw [Addr.add_zero'] at hx294_0)
                      replace p294 := eq_true p294
                      replace q294 := eq_true q294
                      have p295 : 0 ≤ (1 : Int) := (by omega)
                      have q295 : 1 < (t289.length : Int) := of_decide_eq_true (by first | (with_reducible assumption) | assumption)
                      obtain ⟨ad295, e295, hx295_0⟩ := Kd.at_int (Kd.R_reads' HO291.out).2.2 1 p295 q295
                      obtain rfl : ad294 = ad295 := (by injection e295)
                      (try simp only [show (1 : Int).toNat = 1 from rfl, Nat.reduceMul, Nat.reduceEqDiff, Go.Addr.add, ↓reduceIte] at hx295_0)
                      have qi295 : (1 < t289.length) = True := eq_true (by omega)
                      (try rw [show ((1 : Int)).toNat = 1 from rfl] at hx295_0)
                      replace p295 := eq_true p295
                      replace q295 := eq_true q295
                      have p296 : 0 ≤ (2 : Int) := (by omega)
                      have q296 : 2 < (t289.length : Int) := of_decide_eq_true (by first | (with_reducible assumption) | assumption)
                      obtain ⟨ad296, e296, hx296_0⟩ := Kd.at_int (Kd.R_reads' HO291.out).2.2 2 p296 q296
                      obtain rfl : ad294 = ad296 := (by injection e296)
                      (try simp only [show (2 : Int).toNat = 2 from rfl, Nat.reduceMul, Nat.reduceEqDiff, Go.Addr.add, ↓reduceIte] at hx296_0)
                      have qi296 : (2 < t289.length) = True := eq_true (by omega)
                      (try rw [show ((2 : Int)).toNat = 2 from rfl] at hx296_0)
                      replace p296 := eq_true p296
                      replace q296 := eq_true q296
                      have p297 : 0 ≤ (3 : Int) := (by omega)
                      have q297 : 3 < (t289.length : Int) := of_decide_eq_true (by first | (with_reducible assumption) | assumption)
                      obtain ⟨ad297, e297, hx297_0⟩ := Kd.at_int (Kd.R_reads' HO291.out).2.2 3 p297 q297
                      obtain rfl : ad294 = ad297 := (by injection e297)
                      (try simp only [show (3 : Int).toNat = 3 from rfl, Nat.reduceMul, Nat.reduceEqDiff, Go.Addr.add, ↓reduceIte] at hx297_0)
                      have qi297 : (3 < t289.length) = True := eq_true (by omega)
                      (try rw [show ((3 : Int)).toNat = 3 from rfl] at hx297_0)
                      replace p297 := eq_true p297
                      replace q297 := eq_true q297
                      have p298 : 0 ≤ (4 : Int) := (by omega)
                      have q298 : 4 < (t289.length : Int) := of_decide_eq_true (by first | (with_reducible assumption) | assumption)
                      obtain ⟨ad298, e298, hx298_0⟩ := Kd.at_int (Kd.R_reads' HO291.out).2.2 4 p298 q298
                      obtain rfl : ad294 = ad298 := (by injection e298)
                      (try simp only [show (4 : Int).toNat = 4 from rfl, Nat.reduceMul, Nat.reduceEqDiff, Go.Addr.add, ↓reduceIte] at hx298_0)
                      have qi298 : (4 < t289.length) = True := eq_true (by omega)
                      (try rw [show ((4 : Int)).toNat = 4 from rfl] at hx298_0)
                      replace p298 := eq_true p298
                      replace q298 := eq_true q298
                      refine start_ (n := 18) (S := fun w' => w'.cell? ad294 = some (.int .i64 (rd t289 0)) ∧ w'.cell? ⟨ad294.block, ad294.off + 1, none⟩ = some (.int .i64 (rd t289 1)) ∧ w'.cell? ⟨ad294.block, ad294.off + 2, none⟩ = some (.int .i64 (rd t289 2)) ∧ w'.cell? ⟨ad294.block, ad294.off + 3, none⟩ = some (.int .i64 (rd t289 3)) ∧ w'.cell? ⟨ad294.block, ad294.off + 4, none⟩ = some (.int .i64 (rd t289 4))) (ds := []) #[false, false, false, false, false, false, false, false, false, false, false, false, false, false, false, false, false, false] (by kernel_rfl) rfl rfl ⟨hx294_0, hx295_0, hx296_0, hx297_0, hx298_0⟩ (fun hHeld => ?_); refine with_tabW packet_Get.tab10 packet_Get.bits10 (fun HT_ HW_ => ?_)
                      generalize w23.drew = w24 at HO291 BK284 HB hx294_0 hx295_0 hx296_0 hx297_0 hx298_0 hHeld ⊢
                      refine pure_ (i := 0) (N := some 34) (v := ?_) (a' := ?_) #[true, false, false, false, false, false, false, false, false, false, false, false, false, false, false, false, false, false] rfl rfl (any_of HT_.out (by kernel_rfl)) (fun _ _ _ h => h) (Or.inl ⟨by rfl, ?_⟩) ?_ ?_
                      rotate_left
                      · intro w'
                        go_simp
                        with_reducible rfl
                      rotate_left
                      · simp only [Act.put, List.setIfInBounds_toArray, List.set_cons_zero, List.set_cons_succ, i64_w, i32_w]
                        rfl
                      refine pure_ (i := 1) (N := some 35) (v := ?_) (a' := ?_) #[true, true, false, false, false, false, false, false, false, false, false, false, false, false, false, false, false, false] rfl rfl (any_of HT_.out (by kernel_rfl)) (fun _ _ _ h => h) (Or.inl ⟨by rfl, ?_⟩) ?_ ?_
                      rotate_left
                      · intro w'
                        go_simp
                        with_reducible rfl
                      rotate_left
                      · simp only [Act.put, List.setIfInBounds_toArray, List.set_cons_zero, List.set_cons_succ, i64_w, i32_w]
                        rfl
                      refine pure_ (i := 3) (N := some 37) (v := ?_) (a' := ?_) #[true, true, false, true, false, false, false, false, false, false, false, false, false, false, false, false, false, false] rfl rfl (any_of HT_.out (by kernel_rfl)) (fun _ _ _ h => h) (Or.inl ⟨by rfl, ?_⟩) ?_ ?_
                      rotate_left
                      · intro w'
                        go_simp
                        with_reducible rfl
                      rotate_left
                      · simp only [Act.put, List.setIfInBounds_toArray, List.set_cons_zero, List.set_cons_succ, i64_w, i32_w]
                        rfl
                      refine pure_ (i := 4) (N := some 38) (v := ?_) (a' := ?_) #[true, true, false, true, true, false, false, false, false, false, false, false, false, false, false, false, false, false] rfl rfl (any_of HT_.out (by kernel_rfl)) (fun _ _ _ h => h) (Or.inl ⟨by rfl, ?_⟩) ?_ ?_
                      rotate_left
                      · intro w'
                        go_simp
                        with_reducible rfl
                      rotate_left
                      · simp only [Act.put, List.setIfInBounds_toArray, List.set_cons_zero, List.set_cons_succ, i64_w, i32_w]
                        rfl
                      refine pure_ (i := 6) (N := some 40) (v := ?_) (a' := ?_) #[true, true, false, true, true, false, true, false, false, false, false, false, false, false, false, false, false, false] rfl rfl (any_of HT_.out (by kernel_rfl)) (fun _ _ _ h => h) (Or.inl ⟨by rfl, ?_⟩) ?_ ?_
                      rotate_left
                      · intro w'
                        go_simp
                        with_reducible rfl
                      rotate_left
                      · simp only [Act.put, List.setIfInBounds_toArray, List.set_cons_zero, List.set_cons_succ, i64_w, i32_w]
                        rfl
                      refine pure_ (i := 7) (N := some 41) (v := ?_) (a' := ?_) #[true, true, false, true, true, false, true, true, false, false, false, false, false, false, false, false, false, false] rfl rfl (any_of HT_.out (by kernel_rfl)) (fun _ _ _ h => h) (Or.inl ⟨by rfl, ?_⟩) ?_ ?_
                      rotate_left
                      · intro w'
                        go_simp
                        with_reducible rfl
                      rotate_left
                      · simp only [Act.put, List.setIfInBounds_toArray, List.set_cons_zero, List.set_cons_succ, i64_w, i32_w]
                        rfl
                      refine pure_ (i := 9) (N := some 43) (v := ?_) (a' := ?_) #[true, true, false, true, true, false, true, true, false, true, false, false, false, false, false, false, false, false] rfl rfl (any_of HT_.out (by kernel_rfl)) (fun _ _ _ h => h) (Or.inl ⟨by rfl, ?_⟩) ?_ ?_
                      rotate_left
                      · intro w'
                        go_simp
                        with_reducible rfl
                      rotate_left
                      · simp only [Act.put, List.setIfInBounds_toArray, List.set_cons_zero, List.set_cons_succ, i64_w, i32_w]
                        rfl
                      refine pure_ (i := 10) (N := some 44) (v := ?_) (a' := ?_) #[true, true, false, true, true, false, true, true, false, true, true, false, false, false, false, false, false, false] rfl rfl (any_of HT_.out (by kernel_rfl)) (fun _ _ _ h => h) (Or.inl ⟨by rfl, ?_⟩) ?_ ?_
                      rotate_left
                      · intro w'
                        go_simp
                        with_reducible rfl
                      rotate_left
                      · simp only [Act.put, List.setIfInBounds_toArray, List.set_cons_zero, List.set_cons_succ, i64_w, i32_w]
                        rfl
                      refine pure_ (i := 12) (N := some 46) (v := ?_) (a' := ?_) #[true, true, false, true, true, false, true, true, false, true, true, false, true, false, false, false, false, false] rfl rfl (any_of HT_.out (by kernel_rfl)) (fun _ _ _ h => h) (Or.inl ⟨by rfl, ?_⟩) ?_ ?_
                      rotate_left
                      · intro w'
                        go_simp
                        with_reducible rfl
                      rotate_left
                      · simp only [Act.put, List.setIfInBounds_toArray, List.set_cons_zero, List.set_cons_succ, i64_w, i32_w]
                        rfl
                      refine pure_ (i := 13) (N := some 47) (v := ?_) (a' := ?_) #[true, true, false, true, true, false, true, true, false, true, true, false, true, true, false, false, false, false] rfl rfl (any_of HT_.out (by kernel_rfl)) (fun _ _ _ h => h) (Or.inl ⟨by rfl, ?_⟩) ?_ ?_
                      rotate_left
                      · intro w'
                        go_simp
                        with_reducible rfl
                      rotate_left
                      · simp only [Act.put, List.setIfInBounds_toArray, List.set_cons_zero, List.set_cons_succ, i64_w, i32_w]
                        rfl
                      refine take_ (i := 2) (N := some 36) (v := ?_) (a' := ?_) #[true, true, true, true, true, false, true, true, false, true, true, false, true, true, false, false, false, false] rfl rfl (take_ofW HT_.out HW_.out (by kernel_rfl)) (fun _ _ _ h => h) (Or.inl ⟨by rfl, ?_⟩) hHeld ?_ ?_
                      rotate_left
                      · rintro w' ⟨s0, s1, s2, s3, s4⟩
                        go_simp
                        with_reducible rfl
                      rotate_left
                      · simp only [Act.put, List.setIfInBounds_toArray, List.set_cons_zero, List.set_cons_succ, i64_w, i32_w]
                        rfl
                      refine take_ (i := 5) (N := some 39) (v := ?_) (a' := ?_) #[true, true, true, true, true, true, true, true, false, true, true, false, true, true, false, false, false, false] rfl rfl (take_ofW HT_.out HW_.out (by kernel_rfl)) (fun _ _ _ h => h) (Or.inl ⟨by rfl, ?_⟩) hHeld ?_ ?_
                      rotate_left
                      · rintro w' ⟨s0, s1, s2, s3, s4⟩
                        go_simp
                        with_reducible rfl
                      rotate_left
                      · simp only [Act.put, List.setIfInBounds_toArray, List.set_cons_zero, List.set_cons_succ, i64_w, i32_w]
                        rfl
                      refine take_ (i := 8) (N := some 42) (v := ?_) (a' := ?_) #[true, true, true, true, true, true, true, true, true, true, true, false, true, true, false, false, false, false] rfl rfl (take_ofW HT_.out HW_.out (by kernel_rfl)) (fun _ _ _ h => h) (Or.inl ⟨by rfl, ?_⟩) hHeld ?_ ?_
                      rotate_left
                      · rintro w' ⟨s0, s1, s2, s3, s4⟩
                        go_simp
                        with_reducible rfl
                      rotate_left
                      · simp only [Act.put, List.setIfInBounds_toArray, List.set_cons_zero, List.set_cons_succ, i64_w, i32_w]
                        rfl
                      refine take_ (i := 11) (N := some 45) (v := ?_) (a' := ?_) #[true, true, true, true, true, true, true, true, true, true, true, true, true, true, false, false, false, false] rfl rfl (take_ofW HT_.out HW_.out (by kernel_rfl)) (fun _ _ _ h => h) (Or.inl ⟨by rfl, ?_⟩) hHeld ?_ ?_
                      rotate_left
                      · rintro w' ⟨s0, s1, s2, s3, s4⟩
                        go_simp
                        with_reducible rfl
                      rotate_left
                      · simp only [Act.put, List.setIfInBounds_toArray, List.set_cons_zero, List.set_cons_succ, i64_w, i32_w]
                        rfl
                      refine take_ (i := 14) (N := some 48) (v := ?_) (a' := ?_) #[true, true, true, true, true, true, true, true, true, true, true, true, true, true, true, false, false, false] rfl rfl (take_ofW HT_.out HW_.out (by kernel_rfl)) (fun _ _ _ h => h) (Or.inl ⟨by rfl, ?_⟩) hHeld ?_ ?_
                      rotate_left
                      · rintro w' ⟨s0, s1, s2, s3, s4⟩
                        go_simp
                        with_reducible rfl
                      rotate_left
                      · simp only [Act.put, List.setIfInBounds_toArray, List.set_cons_zero, List.set_cons_succ, i64_w, i32_w]
                        rfl
                      refine pure_ (i := 15) (N := some 49) (v := ?_) (a' := ?_) #[true, true, true, true, true, true, true, true, true, true, true, true, true, true, true, true, false, false] rfl rfl (any_of HT_.out (by kernel_rfl)) (fun _ _ _ h => h) (Or.inl ⟨by rfl, ?_⟩) ?_ ?_
                      rotate_left
                      · intro w'
                        go_simp
                        with_reducible rfl
                      rotate_left
                      · simp only [Act.put, List.setIfInBounds_toArray, List.set_cons_zero, List.set_cons_succ, i64_w, i32_w]
                        rfl
                      refine one_ (i := 16) (N := some 7) #[true, true, true, true, true, true, true, true, true, true, true, true, true, true, true, true, true, false] rfl rfl (one_of HT_.out (by kernel_rfl)) (by decide) (fun K hK => ?_)
                      refine box_step ?hg (N := 7) ?hd (cs := #[.int .i64 0, .int .i64 0, .int .i64 0, .int .i64 0, .int .i64 0]) (t := 23) ?hr ?_; (case hd => rfl); (case hg => rfl); (case hr => first | (go_simp; done) | (go_simp; rfl))
                      intro gb299 hg w26 hbox hb
                      have HS0_ := (hb.cell (World.block_lt_of_cell? _ _ (hHeld.1))).trans (hHeld.1)
                      have HS1_ := (hb.cell (World.block_lt_of_cell? _ _ (hHeld.2.1))).trans (hHeld.2.1)
                      have HS2_ := (hb.cell (World.block_lt_of_cell? _ _ (hHeld.2.2.1))).trans (hHeld.2.2.1)
                      have HS3_ := (hb.cell (World.block_lt_of_cell? _ _ (hHeld.2.2.2.1))).trans (hHeld.2.2.2.1)
                      have HS4_ := (hb.cell (World.block_lt_of_cell? _ _ (hHeld.2.2.2.2))).trans (hHeld.2.2.2.2)
                      have n1_ := Aside0.mk (Kd.R_below (by (with_reducible repeat (first | apply Kd.R_alloc | apply Kd.R_drewN | apply Kd.R_drew)); exact HO291.out) hb)
                      have n2_ := Aside0.mk (blk_below (g := gb284) (o := .cells #[.int .i64 0, .int .i64 0, .int .i64 0, .int .i64 0, .int .i64 0] 23 (0, 0)) (by (with_reducible repeat (first | refine blk_drewN ?_ _ | refine blk_drew ?_ | refine blk_alloc ?_ _)); exact BK284.out) hb)
                      have n3_ := Aside0.mk (below_step (by repeat (first | (with_reducible first | exact HB.out | apply below_alloc | apply pw_below_drewN | apply below_drew1 | refine below_set ?_ GE284.out) | exact HB.out)) hb)
                      have n4_ := Aside0.mk (hbox)
                      have n5_ := Aside0.mk ((by rw [hg]; exact (below_size (by repeat (first | (with_reducible first | exact HB.out | apply below_alloc | apply pw_below_drewN | apply below_drew1 | refine below_set ?_ GE284.out) | exact HB.out))) : w.heap.size ≤ gb299))
                      have n6_ := Aside0.mk ((by rw [hg]; exact (below_size (by repeat (first | (with_reducible first | exact HB.out | apply below_alloc | apply pw_below_drewN | apply below_drew1 | refine below_set ?_ GE284.out) | exact HB.out))) : w.heap.size ≤ gb299))
                      have n7_ := Aside0.mk ((by rw [hg]; exact Nat.ne_of_lt (blk_lt (g := gb284) (o := .cells #[.int .i64 0, .int .i64 0, .int .i64 0, .int .i64 0, .int .i64 0] 23 (0, 0)) (by (with_reducible repeat (first | refine blk_drewN ?_ _ | refine blk_drew ?_ | refine blk_alloc ?_ _)); exact BK284.out)) : gb284 ≠ gb299))
                      have n8_ := Aside0.mk ((by rw [hg]; exact Nat.ne_of_gt (blk_lt (g := gb284) (o := .cells #[.int .i64 0, .int .i64 0, .int .i64 0, .int .i64 0, .int .i64 0] 23 (0, 0)) (by (with_reducible repeat (first | refine blk_drewN ?_ _ | refine blk_drew ?_ | refine blk_alloc ?_ _)); exact BK284.out)) : gb299 ≠ gb284))
                      clear HO291
                      clear BK284
                      clear HB
                      have HO291 := n1_
                      have BK284 := n2_
                      have HB := n3_
                      have BK299 := n4_
                      have GW299 := n5_
                      have GE299 := n6_
                      have NB284_299 := n7_
                      have NB299_284 := n8_
                      clear n1_ n2_ n3_ n4_ n5_ n6_ n7_ n8_
                      clear hb hbox hg
                      refine hK.out _ _ ⟨HS0_, HS1_, HS2_, HS3_, HS4_⟩ (fun hHeld => ?_)
                      clear hK K
                      refine norm_ (a' := ?_) ?_ ?_
                      rotate_left
                      · show Act.put _ (some 7) _ = _
                        simp only [Act.put, List.setIfInBounds_toArray, List.set_cons_zero, List.set_cons_succ, i64_w, i32_w]
                        rfl
                      refine one_ (i := 17) (N := none) #[true, true, true, true, true, true, true, true, true, true, true, true, true, true, true, true, true, true] rfl rfl (one_of HT_.out (by kernel_rfl)) (by decide) (fun K hK => ?_)
                      have hs27 : w26.cell? ⟨gb299, 0, none⟩ = some (.int .i64 0) := (blk_cell BK299.out 0).trans rfl
                      have hfs27 := blk_frozen BK299.out 0
                      have hns27_0 := NB284_299.out
                      have hms27_0 := NB299_284.out
                      have hs28 : w26.cell? ⟨gb299, 1, none⟩ = some (.int .i64 0) := (blk_cell BK299.out 1).trans rfl
                      have hfs28 := blk_frozen BK299.out 1
                      have hns28_0 := NB284_299.out
                      have hms28_0 := NB299_284.out
                      have hs29 : w26.cell? ⟨gb299, 2, none⟩ = some (.int .i64 0) := (blk_cell BK299.out 2).trans rfl
                      have hfs29 := blk_frozen BK299.out 2
                      have hns29_0 := NB284_299.out
                      have hms29_0 := NB299_284.out
                      have hs30 : w26.cell? ⟨gb299, 3, none⟩ = some (.int .i64 0) := (blk_cell BK299.out 3).trans rfl
                      have hfs30 := blk_frozen BK299.out 3
                      have hns30_0 := NB284_299.out
                      have hms30_0 := NB299_284.out
                      have hs31 : w26.cell? ⟨gb299, 4, none⟩ = some (.int .i64 0) := (blk_cell BK299.out 4).trans rfl
                      have hfs31 := blk_frozen BK299.out 4
                      have hns31_0 := NB284_299.out
                      have hms31_0 := NB299_284.out
                      refine skip_ (w1 := ?_) (by rfl) rfl ?_ ?_
                      rotate_left
                      · go_simp
                        rfl
                      refine hK.out _ _ ⟨((cell_far (p := ⟨gb299, _, none⟩) (by first | exact Kd.own_blk (Kd.R_ne HO291.out BK299.out (by decide)) | (rw [add_block]; exact Kd.own_blk (Kd.R_ne HO291.out BK299.out (by decide))) | (show (Addr.add _ _).block ≠ _; rw [add_block]; exact Kd.own_blk (Kd.R_ne HO291.out BK299.out (by decide))) | (dsimp only; exact Kd.own_blk (Kd.R_ne HO291.out BK299.out (by decide)))) _).trans (((cell_far (p := ⟨gb299, _, none⟩) (by first | exact Kd.own_blk (Kd.R_ne HO291.out BK299.out (by decide)) | (rw [add_block]; exact Kd.own_blk (Kd.R_ne HO291.out BK299.out (by decide))) | (show (Addr.add _ _).block ≠ _; rw [add_block]; exact Kd.own_blk (Kd.R_ne HO291.out BK299.out (by decide))) | (dsimp only; exact Kd.own_blk (Kd.R_ne HO291.out BK299.out (by decide)))) _).trans (((cell_far (p := ⟨gb299, _, none⟩) (by first | exact Kd.own_blk (Kd.R_ne HO291.out BK299.out (by decide)) | (rw [add_block]; exact Kd.own_blk (Kd.R_ne HO291.out BK299.out (by decide))) | (show (Addr.add _ _).block ≠ _; rw [add_block]; exact Kd.own_blk (Kd.R_ne HO291.out BK299.out (by decide))) | (dsimp only; exact Kd.own_blk (Kd.R_ne HO291.out BK299.out (by decide)))) _).trans (((cell_far (p := ⟨gb299, _, none⟩) (by first | exact Kd.own_blk (Kd.R_ne HO291.out BK299.out (by decide)) | (rw [add_block]; exact Kd.own_blk (Kd.R_ne HO291.out BK299.out (by decide))) | (show (Addr.add _ _).block ≠ _; rw [add_block]; exact Kd.own_blk (Kd.R_ne HO291.out BK299.out (by decide))) | (dsimp only; exact Kd.own_blk (Kd.R_ne HO291.out BK299.out (by decide)))) _).trans (((cell_far (p := ⟨gb299, _, none⟩) (by first | exact Kd.own_blk (Kd.R_ne HO291.out BK299.out (by decide)) | (rw [add_block]; exact Kd.own_blk (Kd.R_ne HO291.out BK299.out (by decide))) | (show (Addr.add _ _).block ≠ _; rw [add_block]; exact Kd.own_blk (Kd.R_ne HO291.out BK299.out (by decide))) | (dsimp only; exact Kd.own_blk (Kd.R_ne HO291.out BK299.out (by decide)))) _).trans (hHeld.1)))))))))), ((cell_far (p := ⟨gb299, _, none⟩) (by first | exact Kd.own_blk (Kd.R_ne HO291.out BK299.out (by decide)) | (rw [add_block]; exact Kd.own_blk (Kd.R_ne HO291.out BK299.out (by decide))) | (show (Addr.add _ _).block ≠ _; rw [add_block]; exact Kd.own_blk (Kd.R_ne HO291.out BK299.out (by decide))) | (dsimp only; exact Kd.own_blk (Kd.R_ne HO291.out BK299.out (by decide)))) _).trans (((cell_far (p := ⟨gb299, _, none⟩) (by first | exact Kd.own_blk (Kd.R_ne HO291.out BK299.out (by decide)) | (rw [add_block]; exact Kd.own_blk (Kd.R_ne HO291.out BK299.out (by decide))) | (show (Addr.add _ _).block ≠ _; rw [add_block]; exact Kd.own_blk (Kd.R_ne HO291.out BK299.out (by decide))) | (dsimp only; exact Kd.own_blk (Kd.R_ne HO291.out BK299.out (by decide)))) _).trans (((cell_far (p := ⟨gb299, _, none⟩) (by first | exact Kd.own_blk (Kd.R_ne HO291.out BK299.out (by decide)) | (rw [add_block]; exact Kd.own_blk (Kd.R_ne HO291.out BK299.out (by decide))) | (show (Addr.add _ _).block ≠ _; rw [add_block]; exact Kd.own_blk (Kd.R_ne HO291.out BK299.out (by decide))) | (dsimp only; exact Kd.own_blk (Kd.R_ne HO291.out BK299.out (by decide)))) _).trans (((cell_far (p := ⟨gb299, _, none⟩) (by first | exact Kd.own_blk (Kd.R_ne HO291.out BK299.out (by decide)) | (rw [add_block]; exact Kd.own_blk (Kd.R_ne HO291.out BK299.out (by decide))) | (show (Addr.add _ _).block ≠ _; rw [add_block]; exact Kd.own_blk (Kd.R_ne HO291.out BK299.out (by decide))) | (dsimp only; exact Kd.own_blk (Kd.R_ne HO291.out BK299.out (by decide)))) _).trans (((cell_far (p := ⟨gb299, _, none⟩) (by first | exact Kd.own_blk (Kd.R_ne HO291.out BK299.out (by decide)) | (rw [add_block]; exact Kd.own_blk (Kd.R_ne HO291.out BK299.out (by decide))) | (show (Addr.add _ _).block ≠ _; rw [add_block]; exact Kd.own_blk (Kd.R_ne HO291.out BK299.out (by decide))) | (dsimp only; exact Kd.own_blk (Kd.R_ne HO291.out BK299.out (by decide)))) _).trans (hHeld.2.1)))))))))), ((cell_far (p := ⟨gb299, _, none⟩) (by first | exact Kd.own_blk (Kd.R_ne HO291.out BK299.out (by decide)) | (rw [add_block]; exact Kd.own_blk (Kd.R_ne HO291.out BK299.out (by decide))) | (show (Addr.add _ _).block ≠ _; rw [add_block]; exact Kd.own_blk (Kd.R_ne HO291.out BK299.out (by decide))) | (dsimp only; exact Kd.own_blk (Kd.R_ne HO291.out BK299.out (by decide)))) _).trans (((cell_far (p := ⟨gb299, _, none⟩) (by first | exact Kd.own_blk (Kd.R_ne HO291.out BK299.out (by decide)) | (rw [add_block]; exact Kd.own_blk (Kd.R_ne HO291.out BK299.out (by decide))) | (show (Addr.add _ _).block ≠ _; rw [add_block]; exact Kd.own_blk (Kd.R_ne HO291.out BK299.out (by decide))) | (dsimp only; exact Kd.own_blk (Kd.R_ne HO291.out BK299.out (by decide)))) _).trans (((cell_far (p := ⟨gb299, _, none⟩) (by first | exact Kd.own_blk (Kd.R_ne HO291.out BK299.out (by decide)) | (rw [add_block]; exact Kd.own_blk (Kd.R_ne HO291.out BK299.out (by decide))) | (show (Addr.add _ _).block ≠ _; rw [add_block]; exact Kd.own_blk (Kd.R_ne HO291.out BK299.out (by decide))) | (dsimp only; exact Kd.own_blk (Kd.R_ne HO291.out BK299.out (by decide)))) _).trans (((cell_far (p := ⟨gb299, _, none⟩) (by first | exact Kd.own_blk (Kd.R_ne HO291.out BK299.out (by decide)) | (rw [add_block]; exact Kd.own_blk (Kd.R_ne HO291.out BK299.out (by decide))) | (show (Addr.add _ _).block ≠ _; rw [add_block]; exact Kd.own_blk (Kd.R_ne HO291.out BK299.out (by decide))) | (dsimp only; exact Kd.own_blk (Kd.R_ne HO291.out BK299.out (by decide)))) _).trans (((cell_far (p := ⟨gb299, _, none⟩) (by first | exact Kd.own_blk (Kd.R_ne HO291.out BK299.out (by decide)) | (rw [add_block]; exact Kd.own_blk (Kd.R_ne HO291.out BK299.out (by decide))) | (show (Addr.add _ _).block ≠ _; rw [add_block]; exact Kd.own_blk (Kd.R_ne HO291.out BK299.out (by decide))) | (dsimp only; exact Kd.own_blk (Kd.R_ne HO291.out BK299.out (by decide)))) _).trans (hHeld.2.2.1)))))))))), ((cell_far (p := ⟨gb299, _, none⟩) (by first | exact Kd.own_blk (Kd.R_ne HO291.out BK299.out (by decide)) | (rw [add_block]; exact Kd.own_blk (Kd.R_ne HO291.out BK299.out (by decide))) | (show (Addr.add _ _).block ≠ _; rw [add_block]; exact Kd.own_blk (Kd.R_ne HO291.out BK299.out (by decide))) | (dsimp only; exact Kd.own_blk (Kd.R_ne HO291.out BK299.out (by decide)))) _).trans (((cell_far (p := ⟨gb299, _, none⟩) (by first | exact Kd.own_blk (Kd.R_ne HO291.out BK299.out (by decide)) | (rw [add_block]; exact Kd.own_blk (Kd.R_ne HO291.out BK299.out (by decide))) | (show (Addr.add _ _).block ≠ _; rw [add_block]; exact Kd.own_blk (Kd.R_ne HO291.out BK299.out (by decide))) | (dsimp only; exact Kd.own_blk (Kd.R_ne HO291.out BK299.out (by decide)))) _).trans (((cell_far (p := ⟨gb299, _, none⟩) (by first | exact Kd.own_blk (Kd.R_ne HO291.out BK299.out (by decide)) | (rw [add_block]; exact Kd.own_blk (Kd.R_ne HO291.out BK299.out (by decide))) | (show (Addr.add _ _).block ≠ _; rw [add_block]; exact Kd.own_blk (Kd.R_ne HO291.out BK299.out (by decide))) | (dsimp only; exact Kd.own_blk (Kd.R_ne HO291.out BK299.out (by decide)))) _).trans (((cell_far (p := ⟨gb299, _, none⟩) (by first | exact Kd.own_blk (Kd.R_ne HO291.out BK299.out (by decide)) | (rw [add_block]; exact Kd.own_blk (Kd.R_ne HO291.out BK299.out (by decide))) | (show (Addr.add _ _).block ≠ _; rw [add_block]; exact Kd.own_blk (Kd.R_ne HO291.out BK299.out (by decide))) | (dsimp only; exact Kd.own_blk (Kd.R_ne HO291.out BK299.out (by decide)))) _).trans (((cell_far (p := ⟨gb299, _, none⟩) (by first | exact Kd.own_blk (Kd.R_ne HO291.out BK299.out (by decide)) | (rw [add_block]; exact Kd.own_blk (Kd.R_ne HO291.out BK299.out (by decide))) | (show (Addr.add _ _).block ≠ _; rw [add_block]; exact Kd.own_blk (Kd.R_ne HO291.out BK299.out (by decide))) | (dsimp only; exact Kd.own_blk (Kd.R_ne HO291.out BK299.out (by decide)))) _).trans (hHeld.2.2.2.1)))))))))), ((cell_far (p := ⟨gb299, _, none⟩) (by first | exact Kd.own_blk (Kd.R_ne HO291.out BK299.out (by decide)) | (rw [add_block]; exact Kd.own_blk (Kd.R_ne HO291.out BK299.out (by decide))) | (show (Addr.add _ _).block ≠ _; rw [add_block]; exact Kd.own_blk (Kd.R_ne HO291.out BK299.out (by decide))) | (dsimp only; exact Kd.own_blk (Kd.R_ne HO291.out BK299.out (by decide)))) _).trans (((cell_far (p := ⟨gb299, _, none⟩) (by first | exact Kd.own_blk (Kd.R_ne HO291.out BK299.out (by decide)) | (rw [add_block]; exact Kd.own_blk (Kd.R_ne HO291.out BK299.out (by decide))) | (show (Addr.add _ _).block ≠ _; rw [add_block]; exact Kd.own_blk (Kd.R_ne HO291.out BK299.out (by decide))) | (dsimp only; exact Kd.own_blk (Kd.R_ne HO291.out BK299.out (by decide)))) _).trans (((cell_far (p := ⟨gb299, _, none⟩) (by first | exact Kd.own_blk (Kd.R_ne HO291.out BK299.out (by decide)) | (rw [add_block]; exact Kd.own_blk (Kd.R_ne HO291.out BK299.out (by decide))) | (show (Addr.add _ _).block ≠ _; rw [add_block]; exact Kd.own_blk (Kd.R_ne HO291.out BK299.out (by decide))) | (dsimp only; exact Kd.own_blk (Kd.R_ne HO291.out BK299.out (by decide)))) _).trans (((cell_far (p := ⟨gb299, _, none⟩) (by first | exact Kd.own_blk (Kd.R_ne HO291.out BK299.out (by decide)) | (rw [add_block]; exact Kd.own_blk (Kd.R_ne HO291.out BK299.out (by decide))) | (show (Addr.add _ _).block ≠ _; rw [add_block]; exact Kd.own_blk (Kd.R_ne HO291.out BK299.out (by decide))) | (dsimp only; exact Kd.own_blk (Kd.R_ne HO291.out BK299.out (by decide)))) _).trans (((cell_far (p := ⟨gb299, _, none⟩) (by first | exact Kd.own_blk (Kd.R_ne HO291.out BK299.out (by decide)) | (rw [add_block]; exact Kd.own_blk (Kd.R_ne HO291.out BK299.out (by decide))) | (show (Addr.add _ _).block ≠ _; rw [add_block]; exact Kd.own_blk (Kd.R_ne HO291.out BK299.out (by decide))) | (dsimp only; exact Kd.own_blk (Kd.R_ne HO291.out BK299.out (by decide)))) _).trans (hHeld.2.2.2.2))))))))))⟩ (fun hHeld => ?_)
                      clear hK K
                      refine done_ (done_of HT_.out (by kernel_rfl)) ?_
                      have hnb32 := NB299_284.out
                      have hnc32 := NB284_299.out
                      have hcz33_0 : w26.cell? ⟨gb299, 0, none⟩ = some (.int .i64 0) := (blk_cell BK299.out 0).trans rfl
                      have hcz33_1 : w26.cell? ⟨gb299, 1, none⟩ = some (.int .i64 0) := (blk_cell BK299.out 1).trans rfl
                      have hcz33_2 : w26.cell? ⟨gb299, 2, none⟩ = some (.int .i64 0) := (blk_cell BK299.out 2).trans rfl
                      have hcz33_3 : w26.cell? ⟨gb299, 3, none⟩ = some (.int .i64 0) := (blk_cell BK299.out 3).trans rfl
                      have hcz33_4 : w26.cell? ⟨gb299, 4, none⟩ = some (.int .i64 0) := (blk_cell BK299.out 4).trans rfl
                      have hfz33_0 := blk_frozen BK299.out 0
                      have hfz33_1 := blk_frozen BK299.out 1
                      have hfz33_2 := blk_frozen BK299.out 2
                      have hfz33_3 := blk_frozen BK299.out 3
                      have hfz33_4 := blk_frozen BK299.out 4
                      try go_wp2_with (first | ((with_reducible refine gate_callee (f := 11) rfl ?_); refine goesL_ (some 51) rfl rfl Tryd.func11 (by kernel_rfl) rfl #[.agg #[.int .i64 (rd t289 0), .int .i64 (rd t289 1), .int .i64 (rd t289 2), .int .i64 (rd t289 3), .int .i64 (rd t289 4)]] rfl (by (try simp only [List.map_toArray, List.map_cons, List.map_nil]); first | done | rfl | (simp only [List.length_drop, List.length_take]; rfl)) ?_; (with_reducible refine (packet_May.calls (rd t289 0) (rd t289 1) (rd t289 2) (rd t289 3) (rd t289 4) true _ A17.out).mono ?_); rintro e w34 ⟨rfl, hb⟩; refine ⟨_, rfl, ?_⟩; have n1_ := Aside0.mk (Kd.R_below (by (with_reducible repeat (first | apply Kd.R_alloc | apply Kd.R_drewN | apply Kd.R_drew)); exact (Kd.R_mono (Kd.R_far (p := ⟨gb299, 4, none⟩) (Kd.R_far (p := ⟨gb299, 3, none⟩) (Kd.R_far (p := ⟨gb299, 2, none⟩) (Kd.R_far (p := ⟨gb299, 1, none⟩) (Kd.R_far (p := ⟨gb299, 0, none⟩) (Kd.R_types HO291.out BK299.out (by decide)) (fun _ hk => hk.2) (.int .i64 (rd t289 0))) (fun _ hk => hk.2) (.int .i64 (rd t289 1))) (fun _ hk => hk.2) (.int .i64 (rd t289 2))) (fun _ hk => hk.2) (.int .i64 (rd t289 3))) (fun _ hk => hk.2) (.int .i64 (rd t289 4))) (fun _ h_ => h_.1))) hb); have n2_ := Aside0.mk (blk_below (g := gb284) (o := .cells #[.int .i64 0, .int .i64 0, .int .i64 0, .int .i64 0, .int .i64 0] 23 (0, 0)) (by (with_reducible repeat (first | refine blk_drewN ?_ _ | refine blk_drew ?_ | refine blk_alloc ?_ _)); refine blk_far ?_ NB284_299.out _; (with_reducible repeat (first | refine blk_drewN ?_ _ | refine blk_drew ?_ | refine blk_alloc ?_ _)); refine blk_far ?_ NB284_299.out _; (with_reducible repeat (first | refine blk_drewN ?_ _ | refine blk_drew ?_ | refine blk_alloc ?_ _)); refine blk_far ?_ NB284_299.out _; (with_reducible repeat (first | refine blk_drewN ?_ _ | refine blk_drew ?_ | refine blk_alloc ?_ _)); refine blk_far ?_ NB284_299.out _; (with_reducible repeat (first | refine blk_drewN ?_ _ | refine blk_drew ?_ | refine blk_alloc ?_ _)); refine blk_far ?_ NB284_299.out _; (with_reducible repeat (first | refine blk_drewN ?_ _ | refine blk_drew ?_ | refine blk_alloc ?_ _)); exact BK284.out) hb); have n3_ := Aside0.mk (blk_below (g := gb299) (o := .cells #[.int .i64 (rd t289 0), .int .i64 (rd t289 1), .int .i64 (rd t289 2), .int .i64 (rd t289 3), .int .i64 (rd t289 4)] 23 (0, 0)) (by (with_reducible repeat (first | refine blk_drewN ?_ _ | refine blk_drew ?_ | refine blk_alloc ?_ _)); refine blk_put (cs := #[.int .i64 (rd t289 0), .int .i64 (rd t289 1), .int .i64 (rd t289 2), .int .i64 (rd t289 3), .int .i64 0]) ?_ 4 _ rfl; (with_reducible repeat (first | refine blk_drewN ?_ _ | refine blk_drew ?_ | refine blk_alloc ?_ _)); refine blk_put (cs := #[.int .i64 (rd t289 0), .int .i64 (rd t289 1), .int .i64 (rd t289 2), .int .i64 0, .int .i64 0]) ?_ 3 _ rfl; (with_reducible repeat (first | refine blk_drewN ?_ _ | refine blk_drew ?_ | refine blk_alloc ?_ _)); refine blk_put (cs := #[.int .i64 (rd t289 0), .int .i64 (rd t289 1), .int .i64 0, .int .i64 0, .int .i64 0]) ?_ 2 _ rfl; (with_reducible repeat (first | refine blk_drewN ?_ _ | refine blk_drew ?_ | refine blk_alloc ?_ _)); refine blk_put (cs := #[.int .i64 (rd t289 0), .int .i64 0, .int .i64 0, .int .i64 0, .int .i64 0]) ?_ 1 _ rfl; (with_reducible repeat (first | refine blk_drewN ?_ _ | refine blk_drew ?_ | refine blk_alloc ?_ _)); refine blk_put (cs := #[.int .i64 0, .int .i64 0, .int .i64 0, .int .i64 0, .int .i64 0]) ?_ 0 _ rfl; (with_reducible repeat (first | refine blk_drewN ?_ _ | refine blk_drew ?_ | refine blk_alloc ?_ _)); exact BK299.out) hb); have n4_ := Aside0.mk (below_step (by repeat (first | (with_reducible first | exact HB.out | apply below_alloc | apply pw_below_drewN | apply below_drew1 | refine below_set ?_ GE284.out | refine below_set ?_ GE299.out) | exact HB.out)) hb); clear HO291; clear BK284; clear BK299; clear HB; have HO291 := n1_; have BK284 := n2_; have BK299 := n3_; have HB := n4_; clear n1_ n2_ n3_ n4_; (try clear hb); (try clear hb2); (try clear hk); (try clear hi); have hcz35_0 : w34.cell? ⟨gb299, 0, none⟩ = some (.int .i64 (rd t289 0)) := (blk_cell BK299.out 0).trans rfl; have hcz35_1 : w34.cell? ⟨gb299, 1, none⟩ = some (.int .i64 (rd t289 1)) := (blk_cell BK299.out 1).trans rfl; have hcz35_2 : w34.cell? ⟨gb299, 2, none⟩ = some (.int .i64 (rd t289 2)) := (blk_cell BK299.out 2).trans rfl; have hcz35_3 : w34.cell? ⟨gb299, 3, none⟩ = some (.int .i64 (rd t289 3)) := (blk_cell BK299.out 3).trans rfl; have hcz35_4 : w34.cell? ⟨gb299, 4, none⟩ = some (.int .i64 (rd t289 4)) := (blk_cell BK299.out 4).trans rfl; have hfz35_0 := blk_frozen BK299.out 0; have hfz35_1 := blk_frozen BK299.out 1; have hfz35_2 := blk_frozen BK299.out 2; have hfz35_3 := blk_frozen BK299.out 3; have hfz35_4 := blk_frozen BK299.out 4; have hcz36_0 : w34.cell? ⟨gb284, 0, none⟩ = some (.int .i64 0) := (blk_cell BK284.out 0).trans rfl; have hcz36_1 : w34.cell? ⟨gb284, 1, none⟩ = some (.int .i64 0) := (blk_cell BK284.out 1).trans rfl; have hcz36_2 : w34.cell? ⟨gb284, 2, none⟩ = some (.int .i64 0) := (blk_cell BK284.out 2).trans rfl; have hcz36_3 : w34.cell? ⟨gb284, 3, none⟩ = some (.int .i64 0) := (blk_cell BK284.out 3).trans rfl; have hcz36_4 : w34.cell? ⟨gb284, 4, none⟩ = some (.int .i64 0) := (blk_cell BK284.out 4).trans rfl; have hfz36_0 := blk_frozen BK284.out 0; have hfz36_1 := blk_frozen BK284.out 1; have hfz36_2 := blk_frozen BK284.out 2; have hfz36_3 := blk_frozen BK284.out 3; have hfz36_4 := blk_frozen BK284.out 4))
                      refine bodyPost_ret (results_ct rfl _ _ gb284 23 #[.int .i64 (rd t289 0), .int .i64 (rd t289 1), .int .i64 (rd t289 2), .int .i64 (rd t289 3), .int .i64 (rd t289 4)] (0, 0) _ rfl (by (with_reducible repeat (first | refine blk_drewN ?_ _ | refine blk_drew ?_ | refine blk_alloc ?_ _)); refine blk_put (cs := #[.int .i64 (rd t289 0), .int .i64 (rd t289 1), .int .i64 (rd t289 2), .int .i64 (rd t289 3), .int .i64 0]) ?_ 4 _ rfl; (with_reducible repeat (first | refine blk_drewN ?_ _ | refine blk_drew ?_ | refine blk_alloc ?_ _)); refine blk_put (cs := #[.int .i64 (rd t289 0), .int .i64 (rd t289 1), .int .i64 (rd t289 2), .int .i64 0, .int .i64 0]) ?_ 3 _ rfl; (with_reducible repeat (first | refine blk_drewN ?_ _ | refine blk_drew ?_ | refine blk_alloc ?_ _)); refine blk_put (cs := #[.int .i64 (rd t289 0), .int .i64 (rd t289 1), .int .i64 0, .int .i64 0, .int .i64 0]) ?_ 2 _ rfl; (with_reducible repeat (first | refine blk_drewN ?_ _ | refine blk_drew ?_ | refine blk_alloc ?_ _)); refine blk_put (cs := #[.int .i64 (rd t289 0), .int .i64 0, .int .i64 0, .int .i64 0, .int .i64 0]) ?_ 1 _ rfl; (with_reducible repeat (first | refine blk_drewN ?_ _ | refine blk_drew ?_ | refine blk_alloc ?_ _)); refine blk_put (cs := #[.int .i64 0, .int .i64 0, .int .i64 0, .int .i64 0, .int .i64 0]) ?_ 0 _ rfl; (with_reducible repeat (first | refine blk_drewN ?_ _ | refine blk_drew ?_ | refine blk_alloc ?_ _)); exact BK284.out) Tryd.underlying23 rfl (by kernel_rfl)) rfl ?_
                      exact ⟨by first | rfl | (simp [errW_none, errW_some] <;> rfl) | (simp [*, errW_none, errW_some] <;> rfl), by repeat (first | (with_reducible first | exact HB.out | apply below_alloc | apply pw_below_drewN | apply below_drew1 | refine below_set ?_ GE284.out | refine below_set ?_ GE299.out) | exact HB.out)⟩
                    · replace c18 := Bool.eq_false_iff.mpr c18
                      subst c18
                      have H1 : (some (0, 0, 0, 0, 0, 2)) = some (r1, r2, r3, r4, r5, r6) := by rw [if_neg (show ¬ (false = true) by decide)] at H; exact H
                      clear H
                      have H := H1
                      clear H1
                      simp only [Option.some.injEq, Prod.mk.injEq] at H
                      obtain ⟨rfl, rfl, rfl, rfl, rfl, rfl⟩ := H
                      go_enter Tryd.func13, Tryd.ntmps13
                      try go_wp2_with (first | ((with_reducible refine gate_dst (N := 2) rfl ?_); refine box_event ?hg (N := 2) ?hd (cs := #[.int .i64 0, .int .i64 0, .int .i64 0, .int .i64 0, .int .i64 0]) (t := 23) ?hr ?_; (case hd => rfl); (case hg => rfl); (case hr => first | (go_simp; done) | (go_simp; rfl)); intro gb284 hg w37 hbox hb; have n0_ := Aside0.mk (below_step (by repeat (first | (with_reducible first | exact HB.out | apply below_alloc | apply pw_below_drewN | apply below_drew1) | exact HB.out)) hb); have n1_ := Aside0.mk (hbox); have n2_ := Aside0.mk ((by rw [hg]; exact (below_size (by repeat (first | (with_reducible first | exact HB.out | apply below_alloc | apply pw_below_drewN | apply below_drew1) | exact HB.out))) : w.heap.size ≤ gb284)); have n3_ := Aside0.mk ((by rw [hg]; exact (below_size (by repeat (first | (with_reducible first | exact HB.out | apply below_alloc | apply pw_below_drewN | apply below_drew1) | exact HB.out))) : w.heap.size ≤ gb284)); clear HB; have HB := n0_; have BK284 := n1_; have GW284 := n2_; have GE284 := n3_; clear n0_ n1_ n2_ n3_; clear hb hbox hg) | ((with_reducible refine gate_callee (f := 17) rfl ?_); refine goesL_ (some 20) rfl rfl Tryd.func17 (by kernel_rfl) rfl #[.slice A0 l0.length c0] rfl (by (try simp only [List.map_toArray, List.map_cons, List.map_nil]); first | done | rfl | (simp only [List.length_drop, List.length_take]; rfl)) ?_; (with_reducible refine (octets_Sum.calls _ _ l0 t285 _ ?side1 ?side2 A8.out).mono ?_); (case side1 => repeat (first | exact (Kd.C_below HR0.out HB.out) | (with_reducible refine Kd.C_alloc ?_ _) | (with_reducible refine Kd.C_drewN ?_ _) | (with_reducible refine Kd.C_drew ?_))); (case side2 => exact HC0.out); rintro e w' ⟨rfl, ⟨nd, rfl⟩⟩; refine ⟨_, rfl, ?_⟩; (try (rw [drewN_self w37]; generalize hq_ : World.drewN w37 _ = w37; have n0_ : Aside0 (w37.heap[gb284]? = some (.cells #[.int .i64 0, .int .i64 0, .int .i64 0, .int .i64 0, .int .i64 0] 23 (0, 0))) := ⟨by rw [← hq_]; exact (by (with_reducible repeat (first | refine blk_drewN ?_ _ | refine blk_drew ?_ | refine blk_alloc ?_ _)); exact BK284.out)⟩; have n1_ : Aside0 (Below w.heap.size w w37) := ⟨by rw [← hq_]; exact (by repeat (first | (with_reducible first | exact HB.out | apply below_alloc | apply pw_below_drewN | apply below_drew1 | refine below_set ?_ GE284.out) | exact HB.out))⟩; clear BK284 HB hq_; have BK284 := n0_; have HB := n1_; clear n0_ n1_))) | ((with_reducible refine gate_callee (f := 22) rfl ?_); refine goesL_ (some 26) rfl rfl Tryd.func22 (by kernel_rfl) rfl #[.slice A0 l0.length c0, .slice (some ⟨0, 0, none⟩) 5 5] rfl (by (try simp only [List.map_toArray, List.map_cons, List.map_nil]); first | done | rfl | (simp only [List.length_drop, List.length_take]; rfl)) ?_; (refine calls_of_args ?sideA ((octets_GetAll.calls k (fun k_ => k_ < w.heap.size) A0 c0 l0 (some ⟨0, 0, none⟩) 5 y286 t289 t292 t293 _ ?side1 ?side2 ?side3 A10.out).mono ?_)); (case sideA => (rw [Ny286.out]; rfl)); (case side1 => exact Kd.V_mk HC0.out (Kd.F_below (Kd.C_F (Kd.heap_int .u8) HR0.out) (by repeat (first | (with_reducible first | exact HB.out | apply below_alloc | apply pw_below_drewN | apply below_drew1 | refine below_set ?_ GE284.out) | exact HB.out)))); (case side2 => exact (hG.below rfl (by repeat (first | (with_reducible first | exact HB.out | apply below_alloc | apply pw_below_drewN | apply below_drew1 | refine below_set ?_ GE284.out | refine below_set ?_ GE299.out) | exact HB.out))).C Ny286.out); (case side3 => (rw [Ny286.out]; decide)); rintro e w41 ⟨v290, rfl, ho0, hb⟩; refine ⟨_, rfl, ?_⟩; have n1_ := Aside0.mk (Kd.R_lower (Kd.R_mono (ok' := fun k_ => True) ho0 (fun _ hk_ => trivial)) (below_size (by repeat (first | (with_reducible first | exact HB.out | apply below_alloc | apply pw_below_drewN | apply below_drew1 | refine below_set ?_ GE284.out | refine below_set ?_ GE299.out) | exact HB.out)))); have n2_ := Aside0.mk (blk_below (g := gb284) (o := .cells #[.int .i64 0, .int .i64 0, .int .i64 0, .int .i64 0, .int .i64 0] 23 (0, 0)) (by (with_reducible repeat (first | refine blk_drewN ?_ _ | refine blk_drew ?_ | refine blk_alloc ?_ _)); exact BK284.out) hb); have n3_ := Aside0.mk (below_step (by repeat (first | (with_reducible first | exact HB.out | apply below_alloc | apply pw_below_drewN | apply below_drew1 | refine below_set ?_ GE284.out) | exact HB.out)) hb); clear BK284; clear HB; have HO291 := n1_; have BK284 := n2_; have HB := n3_; clear n1_ n2_ n3_; (try clear hb); (try clear hb2); (try clear hk); (try clear hi); (try clear ho0)))
                      have n1_ := Aside0.mk (Kd.R_drew HO291.out)
                      have n2_ := Aside0.mk (blk_drew BK284.out)
                      have n3_ := Aside0.mk (below_drew1 HB.out)
                      clear HO291
                      clear BK284
                      clear HB
                      have HO291 := n1_
                      have BK284 := n2_
                      have HB := n3_
                      clear n1_ n2_ n3_
                      obtain ⟨Ao43, co43, eo43⟩ := Kd.R_slice HO291.out
                      (first | subst eo43 | (injection eo43 with f1_ f2_ f3_; have f4_ := f1_.symm; have f5_ := f3_.symm; clear f1_ f2_ f3_; subst f4_; subst f5_))
                      have p294 : 0 ≤ (0 : Int) := (by omega)
                      have q294 : 0 < (t289.length : Int) := of_decide_eq_true (by first | (with_reducible assumption) | assumption)
                      obtain ⟨ad294, e294, hx294_0⟩ := Kd.at_int (Kd.R_reads' HO291.out).2.2 0 p294 q294
                      cases e294
                      have qi294 : (0 < t289.length) = True := eq_true (by omega)
                      (try rw [show ((0 : Int)).toNat = 0 from rfl] at hx294_0)
                      (try rw [Addr.add_zero'] at hx294_0)
                      replace p294 := eq_true p294
                      replace q294 := eq_true q294
                      have p295 : 0 ≤ (1 : Int) := (by omega)
                      have q295 : 1 < (t289.length : Int) := of_decide_eq_true (by first | (with_reducible assumption) | assumption)
                      obtain ⟨ad295, e295, hx295_0⟩ := Kd.at_int (Kd.R_reads' HO291.out).2.2 1 p295 q295
                      obtain rfl : ad294 = ad295 := (by injection e295)
                      (try simp only [show (1 : Int).toNat = 1 from rfl, Nat.reduceMul, Nat.reduceEqDiff, Go.Addr.add, ↓reduceIte] at hx295_0)
                      have qi295 : (1 < t289.length) = True := eq_true (by omega)
                      (try rw [show ((1 : Int)).toNat = 1 from rfl] at hx295_0)
                      replace p295 := eq_true p295
                      replace q295 := eq_true q295
                      have p296 : 0 ≤ (2 : Int) := (by omega)
                      have q296 : 2 < (t289.length : Int) := of_decide_eq_true (by first | (with_reducible assumption) | assumption)
                      obtain ⟨ad296, e296, hx296_0⟩ := Kd.at_int (Kd.R_reads' HO291.out).2.2 2 p296 q296
                      obtain rfl : ad294 = ad296 := (by injection e296)
                      (try simp only [show (2 : Int).toNat = 2 from rfl, Nat.reduceMul, Nat.reduceEqDiff, Go.Addr.add, ↓reduceIte] at hx296_0)
                      have qi296 : (2 < t289.length) = True := eq_true (by omega)
                      (try rw [show ((2 : Int)).toNat = 2 from rfl] at hx296_0)
                      replace p296 := eq_true p296
                      replace q296 := eq_true q296
                      have p297 : 0 ≤ (3 : Int) := (by omega)
                      have q297 : 3 < (t289.length : Int) := of_decide_eq_true (by first | (with_reducible assumption) | assumption)
                      obtain ⟨ad297, e297, hx297_0⟩ := Kd.at_int (Kd.R_reads' HO291.out).2.2 3 p297 q297
                      obtain rfl : ad294 = ad297 := (by injection e297)
                      (try simp only [show (3 : Int).toNat = 3 from rfl, Nat.reduceMul, Nat.reduceEqDiff, Go.Addr.add, ↓reduceIte] at hx297_0)
                      have qi297 : (3 < t289.length) = True := eq_true (by omega)
                      (try rw [show ((3 : Int)).toNat = 3 from rfl] at hx297_0)
                      replace p297 := eq_true p297
                      replace q297 := eq_true q297
                      have p298 : 0 ≤ (4 : Int) := (by omega)
                      have q298 : 4 < (t289.length : Int) := of_decide_eq_true (by first | (with_reducible assumption) | assumption)
                      obtain ⟨ad298, e298, hx298_0⟩ := Kd.at_int (Kd.R_reads' HO291.out).2.2 4 p298 q298
                      obtain rfl : ad294 = ad298 := (by injection e298)
                      (try simp only [show (4 : Int).toNat = 4 from rfl, Nat.reduceMul, Nat.reduceEqDiff, Go.Addr.add, ↓reduceIte] at hx298_0)
                      have qi298 : (4 < t289.length) = True := eq_true (by omega)
                      (try rw [show ((4 : Int)).toNat = 4 from rfl] at hx298_0)
                      replace p298 := eq_true p298
                      replace q298 := eq_true q298
                      refine start_ (n := 18) (S := fun w' => w'.cell? ad294 = some (.int .i64 (rd t289 0)) ∧ w'.cell? ⟨ad294.block, ad294.off + 1, none⟩ = some (.int .i64 (rd t289 1)) ∧ w'.cell? ⟨ad294.block, ad294.off + 2, none⟩ = some (.int .i64 (rd t289 2)) ∧ w'.cell? ⟨ad294.block, ad294.off + 3, none⟩ = some (.int .i64 (rd t289 3)) ∧ w'.cell? ⟨ad294.block, ad294.off + 4, none⟩ = some (.int .i64 (rd t289 4))) (ds := []) #[false, false, false, false, false, false, false, false, false, false, false, false, false, false, false, false, false, false] (by kernel_rfl) rfl rfl ⟨hx294_0, hx295_0, hx296_0, hx297_0, hx298_0⟩ (fun hHeld => ?_); refine with_tabW packet_Get.tab10 packet_Get.bits10 (fun HT_ HW_ => ?_)
                      generalize w41.drew = w42 at HO291 BK284 HB hx294_0 hx295_0 hx296_0 hx297_0 hx298_0 hHeld ⊢
                      refine pure_ (i := 0) (N := some 34) (v := ?_) (a' := ?_) #[true, false, false, false, false, false, false, false, false, false, false, false, false, false, false, false, false, false] rfl rfl (any_of HT_.out (by kernel_rfl)) (fun _ _ _ h => h) (Or.inl ⟨by rfl, ?_⟩) ?_ ?_
                      rotate_left
                      · intro w'
                        go_simp
                        with_reducible rfl
                      rotate_left
                      · simp only [Act.put, List.setIfInBounds_toArray, List.set_cons_zero, List.set_cons_succ, i64_w, i32_w]
                        rfl
                      refine pure_ (i := 1) (N := some 35) (v := ?_) (a' := ?_) #[true, true, false, false, false, false, false, false, false, false, false, false, false, false, false, false, false, false] rfl rfl (any_of HT_.out (by kernel_rfl)) (fun _ _ _ h => h) (Or.inl ⟨by rfl, ?_⟩) ?_ ?_
                      rotate_left
                      · intro w'
                        go_simp
                        with_reducible rfl
                      rotate_left
                      · simp only [Act.put, List.setIfInBounds_toArray, List.set_cons_zero, List.set_cons_succ, i64_w, i32_w]
                        rfl
                      refine pure_ (i := 3) (N := some 37) (v := ?_) (a' := ?_) #[true, true, false, true, false, false, false, false, false, false, false, false, false, false, false, false, false, false] rfl rfl (any_of HT_.out (by kernel_rfl)) (fun _ _ _ h => h) (Or.inl ⟨by rfl, ?_⟩) ?_ ?_
                      rotate_left
                      · intro w'
                        go_simp
                        with_reducible rfl
                      rotate_left
                      · simp only [Act.put, List.setIfInBounds_toArray, List.set_cons_zero, List.set_cons_succ, i64_w, i32_w]
                        rfl
                      refine pure_ (i := 4) (N := some 38) (v := ?_) (a' := ?_) #[true, true, false, true, true, false, false, false, false, false, false, false, false, false, false, false, false, false] rfl rfl (any_of HT_.out (by kernel_rfl)) (fun _ _ _ h => h) (Or.inl ⟨by rfl, ?_⟩) ?_ ?_
                      rotate_left
                      · intro w'
                        go_simp
                        with_reducible rfl
                      rotate_left
                      · simp only [Act.put, List.setIfInBounds_toArray, List.set_cons_zero, List.set_cons_succ, i64_w, i32_w]
                        rfl
                      refine pure_ (i := 6) (N := some 40) (v := ?_) (a' := ?_) #[true, true, false, true, true, false, true, false, false, false, false, false, false, false, false, false, false, false] rfl rfl (any_of HT_.out (by kernel_rfl)) (fun _ _ _ h => h) (Or.inl ⟨by rfl, ?_⟩) ?_ ?_
                      rotate_left
                      · intro w'
                        go_simp
                        with_reducible rfl
                      rotate_left
                      · simp only [Act.put, List.setIfInBounds_toArray, List.set_cons_zero, List.set_cons_succ, i64_w, i32_w]
                        rfl
                      refine pure_ (i := 7) (N := some 41) (v := ?_) (a' := ?_) #[true, true, false, true, true, false, true, true, false, false, false, false, false, false, false, false, false, false] rfl rfl (any_of HT_.out (by kernel_rfl)) (fun _ _ _ h => h) (Or.inl ⟨by rfl, ?_⟩) ?_ ?_
                      rotate_left
                      · intro w'
                        go_simp
                        with_reducible rfl
                      rotate_left
                      · simp only [Act.put, List.setIfInBounds_toArray, List.set_cons_zero, List.set_cons_succ, i64_w, i32_w]
                        rfl
                      refine pure_ (i := 9) (N := some 43) (v := ?_) (a' := ?_) #[true, true, false, true, true, false, true, true, false, true, false, false, false, false, false, false, false, false] rfl rfl (any_of HT_.out (by kernel_rfl)) (fun _ _ _ h => h) (Or.inl ⟨by rfl, ?_⟩) ?_ ?_
                      rotate_left
                      · intro w'
                        go_simp
                        with_reducible rfl
                      rotate_left
                      · simp only [Act.put, List.setIfInBounds_toArray, List.set_cons_zero, List.set_cons_succ, i64_w, i32_w]
                        rfl
                      refine pure_ (i := 10) (N := some 44) (v := ?_) (a' := ?_) #[true, true, false, true, true, false, true, true, false, true, true, false, false, false, false, false, false, false] rfl rfl (any_of HT_.out (by kernel_rfl)) (fun _ _ _ h => h) (Or.inl ⟨by rfl, ?_⟩) ?_ ?_
                      rotate_left
                      · intro w'
                        go_simp
                        with_reducible rfl
                      rotate_left
                      · simp only [Act.put, List.setIfInBounds_toArray, List.set_cons_zero, List.set_cons_succ, i64_w, i32_w]
                        rfl
                      refine pure_ (i := 12) (N := some 46) (v := ?_) (a' := ?_) #[true, true, false, true, true, false, true, true, false, true, true, false, true, false, false, false, false, false] rfl rfl (any_of HT_.out (by kernel_rfl)) (fun _ _ _ h => h) (Or.inl ⟨by rfl, ?_⟩) ?_ ?_
                      rotate_left
                      · intro w'
                        go_simp
                        with_reducible rfl
                      rotate_left
                      · simp only [Act.put, List.setIfInBounds_toArray, List.set_cons_zero, List.set_cons_succ, i64_w, i32_w]
                        rfl
                      refine pure_ (i := 13) (N := some 47) (v := ?_) (a' := ?_) #[true, true, false, true, true, false, true, true, false, true, true, false, true, true, false, false, false, false] rfl rfl (any_of HT_.out (by kernel_rfl)) (fun _ _ _ h => h) (Or.inl ⟨by rfl, ?_⟩) ?_ ?_
                      rotate_left
                      · intro w'
                        go_simp
                        with_reducible rfl
                      rotate_left
                      · simp only [Act.put, List.setIfInBounds_toArray, List.set_cons_zero, List.set_cons_succ, i64_w, i32_w]
                        rfl
                      refine take_ (i := 2) (N := some 36) (v := ?_) (a' := ?_) #[true, true, true, true, true, false, true, true, false, true, true, false, true, true, false, false, false, false] rfl rfl (take_ofW HT_.out HW_.out (by kernel_rfl)) (fun _ _ _ h => h) (Or.inl ⟨by rfl, ?_⟩) hHeld ?_ ?_
                      rotate_left
                      · rintro w' ⟨s0, s1, s2, s3, s4⟩
                        go_simp
                        with_reducible rfl
                      rotate_left
                      · simp only [Act.put, List.setIfInBounds_toArray, List.set_cons_zero, List.set_cons_succ, i64_w, i32_w]
                        rfl
                      refine take_ (i := 5) (N := some 39) (v := ?_) (a' := ?_) #[true, true, true, true, true, true, true, true, false, true, true, false, true, true, false, false, false, false] rfl rfl (take_ofW HT_.out HW_.out (by kernel_rfl)) (fun _ _ _ h => h) (Or.inl ⟨by rfl, ?_⟩) hHeld ?_ ?_
                      rotate_left
                      · rintro w' ⟨s0, s1, s2, s3, s4⟩
                        go_simp
                        with_reducible rfl
                      rotate_left
                      · simp only [Act.put, List.setIfInBounds_toArray, List.set_cons_zero, List.set_cons_succ, i64_w, i32_w]
                        rfl
                      refine take_ (i := 8) (N := some 42) (v := ?_) (a' := ?_) #[true, true, true, true, true, true, true, true, true, true, true, false, true, true, false, false, false, false] rfl rfl (take_ofW HT_.out HW_.out (by kernel_rfl)) (fun _ _ _ h => h) (Or.inl ⟨by rfl, ?_⟩) hHeld ?_ ?_
                      rotate_left
                      · rintro w' ⟨s0, s1, s2, s3, s4⟩
                        go_simp
                        with_reducible rfl
                      rotate_left
                      · simp only [Act.put, List.setIfInBounds_toArray, List.set_cons_zero, List.set_cons_succ, i64_w, i32_w]
                        rfl
                      refine take_ (i := 11) (N := some 45) (v := ?_) (a' := ?_) #[true, true, true, true, true, true, true, true, true, true, true, true, true, true, false, false, false, false] rfl rfl (take_ofW HT_.out HW_.out (by kernel_rfl)) (fun _ _ _ h => h) (Or.inl ⟨by rfl, ?_⟩) hHeld ?_ ?_
                      rotate_left
                      · rintro w' ⟨s0, s1, s2, s3, s4⟩
                        go_simp
                        with_reducible rfl
                      rotate_left
                      · simp only [Act.put, List.setIfInBounds_toArray, List.set_cons_zero, List.set_cons_succ, i64_w, i32_w]
                        rfl
                      refine take_ (i := 14) (N := some 48) (v := ?_) (a' := ?_) #[true, true, true, true, true, true, true, true, true, true, true, true, true, true, true, false, false, false] rfl rfl (take_ofW HT_.out HW_.out (by kernel_rfl)) (fun _ _ _ h => h) (Or.inl ⟨by rfl, ?_⟩) hHeld ?_ ?_
                      rotate_left
                      · rintro w' ⟨s0, s1, s2, s3, s4⟩
                        go_simp
                        with_reducible rfl
                      rotate_left
                      · simp only [Act.put, List.setIfInBounds_toArray, List.set_cons_zero, List.set_cons_succ, i64_w, i32_w]
                        rfl
                      refine pure_ (i := 15) (N := some 49) (v := ?_) (a' := ?_) #[true, true, true, true, true, true, true, true, true, true, true, true, true, true, true, true, false, false] rfl rfl (any_of HT_.out (by kernel_rfl)) (fun _ _ _ h => h) (Or.inl ⟨by rfl, ?_⟩) ?_ ?_
                      rotate_left
                      · intro w'
                        go_simp
                        with_reducible rfl
                      rotate_left
                      · simp only [Act.put, List.setIfInBounds_toArray, List.set_cons_zero, List.set_cons_succ, i64_w, i32_w]
                        rfl
                      refine one_ (i := 16) (N := some 7) #[true, true, true, true, true, true, true, true, true, true, true, true, true, true, true, true, true, false] rfl rfl (one_of HT_.out (by kernel_rfl)) (by decide) (fun K hK => ?_)
                      refine box_step ?hg (N := 7) ?hd (cs := #[.int .i64 0, .int .i64 0, .int .i64 0, .int .i64 0, .int .i64 0]) (t := 23) ?hr ?_; (case hd => rfl); (case hg => rfl); (case hr => first | (go_simp; done) | (go_simp; rfl))
                      intro gb299 hg w44 hbox hb
                      have HS0_ := (hb.cell (World.block_lt_of_cell? _ _ (hHeld.1))).trans (hHeld.1)
                      have HS1_ := (hb.cell (World.block_lt_of_cell? _ _ (hHeld.2.1))).trans (hHeld.2.1)
                      have HS2_ := (hb.cell (World.block_lt_of_cell? _ _ (hHeld.2.2.1))).trans (hHeld.2.2.1)
                      have HS3_ := (hb.cell (World.block_lt_of_cell? _ _ (hHeld.2.2.2.1))).trans (hHeld.2.2.2.1)
                      have HS4_ := (hb.cell (World.block_lt_of_cell? _ _ (hHeld.2.2.2.2))).trans (hHeld.2.2.2.2)
                      have n1_ := Aside0.mk (Kd.R_below (by (with_reducible repeat (first | apply Kd.R_alloc | apply Kd.R_drewN | apply Kd.R_drew)); exact HO291.out) hb)
                      have n2_ := Aside0.mk (blk_below (g := gb284) (o := .cells #[.int .i64 0, .int .i64 0, .int .i64 0, .int .i64 0, .int .i64 0] 23 (0, 0)) (by (with_reducible repeat (first | refine blk_drewN ?_ _ | refine blk_drew ?_ | refine blk_alloc ?_ _)); exact BK284.out) hb)
                      have n3_ := Aside0.mk (below_step (by repeat (first | (with_reducible first | exact HB.out | apply below_alloc | apply pw_below_drewN | apply below_drew1 | refine below_set ?_ GE284.out) | exact HB.out)) hb)
                      have n4_ := Aside0.mk (hbox)
                      have n5_ := Aside0.mk ((by rw [hg]; exact (below_size (by repeat (first | (with_reducible first | exact HB.out | apply below_alloc | apply pw_below_drewN | apply below_drew1 | refine below_set ?_ GE284.out) | exact HB.out))) : w.heap.size ≤ gb299))
                      have n6_ := Aside0.mk ((by rw [hg]; exact (below_size (by repeat (first | (with_reducible first | exact HB.out | apply below_alloc | apply pw_below_drewN | apply below_drew1 | refine below_set ?_ GE284.out) | exact HB.out))) : w.heap.size ≤ gb299))
                      have n7_ := Aside0.mk ((by rw [hg]; exact Nat.ne_of_lt (blk_lt (g := gb284) (o := .cells #[.int .i64 0, .int .i64 0, .int .i64 0, .int .i64 0, .int .i64 0] 23 (0, 0)) (by (with_reducible repeat (first | refine blk_drewN ?_ _ | refine blk_drew ?_ | refine blk_alloc ?_ _)); exact BK284.out)) : gb284 ≠ gb299))
                      have n8_ := Aside0.mk ((by rw [hg]; exact Nat.ne_of_gt (blk_lt (g := gb284) (o := .cells #[.int .i64 0, .int .i64 0, .int .i64 0, .int .i64 0, .int .i64 0] 23 (0, 0)) (by (with_reducible repeat (first | refine blk_drewN ?_ _ | refine blk_drew ?_ | refine blk_alloc ?_ _)); exact BK284.out)) : gb299 ≠ gb284))
                      clear HO291
                      clear BK284
                      clear HB
                      have HO291 := n1_
                      have BK284 := n2_
                      have HB := n3_
                      have BK299 := n4_
                      have GW299 := n5_
                      have GE299 := n6_
                      have NB284_299 := n7_
                      have NB299_284 := n8_
                      clear n1_ n2_ n3_ n4_ n5_ n6_ n7_ n8_
                      clear hb hbox hg
                      refine hK.out _ _ ⟨HS0_, HS1_, HS2_, HS3_, HS4_⟩ (fun hHeld => ?_)
                      clear hK K
                      refine norm_ (a' := ?_) ?_ ?_
                      rotate_left
                      · show Act.put _ (some 7) _ = _
                        simp only [Act.put, List.setIfInBounds_toArray, List.set_cons_zero, List.set_cons_succ, i64_w, i32_w]
                        rfl
                      refine one_ (i := 17) (N := none) #[true, true, true, true, true, true, true, true, true, true, true, true, true, true, true, true, true, true] rfl rfl (one_of HT_.out (by kernel_rfl)) (by decide) (fun K hK => ?_)
                      have hs45 : w44.cell? ⟨gb299, 0, none⟩ = some (.int .i64 0) := (blk_cell BK299.out 0).trans rfl
                      have hfs45 := blk_frozen BK299.out 0
                      have hns45_0 := NB284_299.out
                      have hms45_0 := NB299_284.out
                      have hs46 : w44.cell? ⟨gb299, 1, none⟩ = some (.int .i64 0) := (blk_cell BK299.out 1).trans rfl
                      have hfs46 := blk_frozen BK299.out 1
                      have hns46_0 := NB284_299.out
                      have hms46_0 := NB299_284.out
                      have hs47 : w44.cell? ⟨gb299, 2, none⟩ = some (.int .i64 0) := (blk_cell BK299.out 2).trans rfl
                      have hfs47 := blk_frozen BK299.out 2
                      have hns47_0 := NB284_299.out
                      have hms47_0 := NB299_284.out
                      have hs48 : w44.cell? ⟨gb299, 3, none⟩ = some (.int .i64 0) := (blk_cell BK299.out 3).trans rfl
                      have hfs48 := blk_frozen BK299.out 3
                      have hns48_0 := NB284_299.out
                      have hms48_0 := NB299_284.out
                      have hs49 : w44.cell? ⟨gb299, 4, none⟩ = some (.int .i64 0) := (blk_cell BK299.out 4).trans rfl
                      have hfs49 := blk_frozen BK299.out 4
                      have hns49_0 := NB284_299.out
                      have hms49_0 := NB299_284.out
                      refine skip_ (w1 := ?_) (by rfl) rfl ?_ ?_
                      rotate_left
                      · go_simp
                        rfl
                      refine hK.out _ _ ⟨((cell_far (p := ⟨gb299, _, none⟩) (by first | exact Kd.own_blk (Kd.R_ne HO291.out BK299.out (by decide)) | (rw [add_block]; exact Kd.own_blk (Kd.R_ne HO291.out BK299.out (by decide))) | (show (Addr.add _ _).block ≠ _; rw [add_block]; exact Kd.own_blk (Kd.R_ne HO291.out BK299.out (by decide))) | (dsimp only; exact Kd.own_blk (Kd.R_ne HO291.out BK299.out (by decide)))) _).trans (((cell_far (p := ⟨gb299, _, none⟩) (by first | exact Kd.own_blk (Kd.R_ne HO291.out BK299.out (by decide)) | (rw [add_block]; exact Kd.own_blk (Kd.R_ne HO291.out BK299.out (by decide))) | (show (Addr.add _ _).block ≠ _; rw [add_block]; exact Kd.own_blk (Kd.R_ne HO291.out BK299.out (by decide))) | (dsimp only; exact Kd.own_blk (Kd.R_ne HO291.out BK299.out (by decide)))) _).trans (((cell_far (p := ⟨gb299, _, none⟩) (by first | exact Kd.own_blk (Kd.R_ne HO291.out BK299.out (by decide)) | (rw [add_block]; exact Kd.own_blk (Kd.R_ne HO291.out BK299.out (by decide))) | (show (Addr.add _ _).block ≠ _; rw [add_block]; exact Kd.own_blk (Kd.R_ne HO291.out BK299.out (by decide))) | (dsimp only; exact Kd.own_blk (Kd.R_ne HO291.out BK299.out (by decide)))) _).trans (((cell_far (p := ⟨gb299, _, none⟩) (by first | exact Kd.own_blk (Kd.R_ne HO291.out BK299.out (by decide)) | (rw [add_block]; exact Kd.own_blk (Kd.R_ne HO291.out BK299.out (by decide))) | (show (Addr.add _ _).block ≠ _; rw [add_block]; exact Kd.own_blk (Kd.R_ne HO291.out BK299.out (by decide))) | (dsimp only; exact Kd.own_blk (Kd.R_ne HO291.out BK299.out (by decide)))) _).trans (((cell_far (p := ⟨gb299, _, none⟩) (by first | exact Kd.own_blk (Kd.R_ne HO291.out BK299.out (by decide)) | (rw [add_block]; exact Kd.own_blk (Kd.R_ne HO291.out BK299.out (by decide))) | (show (Addr.add _ _).block ≠ _; rw [add_block]; exact Kd.own_blk (Kd.R_ne HO291.out BK299.out (by decide))) | (dsimp only; exact Kd.own_blk (Kd.R_ne HO291.out BK299.out (by decide)))) _).trans (hHeld.1)))))))))), ((cell_far (p := ⟨gb299, _, none⟩) (by first | exact Kd.own_blk (Kd.R_ne HO291.out BK299.out (by decide)) | (rw [add_block]; exact Kd.own_blk (Kd.R_ne HO291.out BK299.out (by decide))) | (show (Addr.add _ _).block ≠ _; rw [add_block]; exact Kd.own_blk (Kd.R_ne HO291.out BK299.out (by decide))) | (dsimp only; exact Kd.own_blk (Kd.R_ne HO291.out BK299.out (by decide)))) _).trans (((cell_far (p := ⟨gb299, _, none⟩) (by first | exact Kd.own_blk (Kd.R_ne HO291.out BK299.out (by decide)) | (rw [add_block]; exact Kd.own_blk (Kd.R_ne HO291.out BK299.out (by decide))) | (show (Addr.add _ _).block ≠ _; rw [add_block]; exact Kd.own_blk (Kd.R_ne HO291.out BK299.out (by decide))) | (dsimp only; exact Kd.own_blk (Kd.R_ne HO291.out BK299.out (by decide)))) _).trans (((cell_far (p := ⟨gb299, _, none⟩) (by first | exact Kd.own_blk (Kd.R_ne HO291.out BK299.out (by decide)) | (rw [add_block]; exact Kd.own_blk (Kd.R_ne HO291.out BK299.out (by decide))) | (show (Addr.add _ _).block ≠ _; rw [add_block]; exact Kd.own_blk (Kd.R_ne HO291.out BK299.out (by decide))) | (dsimp only; exact Kd.own_blk (Kd.R_ne HO291.out BK299.out (by decide)))) _).trans (((cell_far (p := ⟨gb299, _, none⟩) (by first | exact Kd.own_blk (Kd.R_ne HO291.out BK299.out (by decide)) | (rw [add_block]; exact Kd.own_blk (Kd.R_ne HO291.out BK299.out (by decide))) | (show (Addr.add _ _).block ≠ _; rw [add_block]; exact Kd.own_blk (Kd.R_ne HO291.out BK299.out (by decide))) | (dsimp only; exact Kd.own_blk (Kd.R_ne HO291.out BK299.out (by decide)))) _).trans (((cell_far (p := ⟨gb299, _, none⟩) (by first | exact Kd.own_blk (Kd.R_ne HO291.out BK299.out (by decide)) | (rw [add_block]; exact Kd.own_blk (Kd.R_ne HO291.out BK299.out (by decide))) | (show (Addr.add _ _).block ≠ _; rw [add_block]; exact Kd.own_blk (Kd.R_ne HO291.out BK299.out (by decide))) | (dsimp only; exact Kd.own_blk (Kd.R_ne HO291.out BK299.out (by decide)))) _).trans (hHeld.2.1)))))))))), ((cell_far (p := ⟨gb299, _, none⟩) (by first | exact Kd.own_blk (Kd.R_ne HO291.out BK299.out (by decide)) | (rw [add_block]; exact Kd.own_blk (Kd.R_ne HO291.out BK299.out (by decide))) | (show (Addr.add _ _).block ≠ _; rw [add_block]; exact Kd.own_blk (Kd.R_ne HO291.out BK299.out (by decide))) | (dsimp only; exact Kd.own_blk (Kd.R_ne HO291.out BK299.out (by decide)))) _).trans (((cell_far (p := ⟨gb299, _, none⟩) (by first | exact Kd.own_blk (Kd.R_ne HO291.out BK299.out (by decide)) | (rw [add_block]; exact Kd.own_blk (Kd.R_ne HO291.out BK299.out (by decide))) | (show (Addr.add _ _).block ≠ _; rw [add_block]; exact Kd.own_blk (Kd.R_ne HO291.out BK299.out (by decide))) | (dsimp only; exact Kd.own_blk (Kd.R_ne HO291.out BK299.out (by decide)))) _).trans (((cell_far (p := ⟨gb299, _, none⟩) (by first | exact Kd.own_blk (Kd.R_ne HO291.out BK299.out (by decide)) | (rw [add_block]; exact Kd.own_blk (Kd.R_ne HO291.out BK299.out (by decide))) | (show (Addr.add _ _).block ≠ _; rw [add_block]; exact Kd.own_blk (Kd.R_ne HO291.out BK299.out (by decide))) | (dsimp only; exact Kd.own_blk (Kd.R_ne HO291.out BK299.out (by decide)))) _).trans (((cell_far (p := ⟨gb299, _, none⟩) (by first | exact Kd.own_blk (Kd.R_ne HO291.out BK299.out (by decide)) | (rw [add_block]; exact Kd.own_blk (Kd.R_ne HO291.out BK299.out (by decide))) | (show (Addr.add _ _).block ≠ _; rw [add_block]; exact Kd.own_blk (Kd.R_ne HO291.out BK299.out (by decide))) | (dsimp only; exact Kd.own_blk (Kd.R_ne HO291.out BK299.out (by decide)))) _).trans (((cell_far (p := ⟨gb299, _, none⟩) (by first | exact Kd.own_blk (Kd.R_ne HO291.out BK299.out (by decide)) | (rw [add_block]; exact Kd.own_blk (Kd.R_ne HO291.out BK299.out (by decide))) | (show (Addr.add _ _).block ≠ _; rw [add_block]; exact Kd.own_blk (Kd.R_ne HO291.out BK299.out (by decide))) | (dsimp only; exact Kd.own_blk (Kd.R_ne HO291.out BK299.out (by decide)))) _).trans (hHeld.2.2.1)))))))))), ((cell_far (p := ⟨gb299, _, none⟩) (by first | exact Kd.own_blk (Kd.R_ne HO291.out BK299.out (by decide)) | (rw [add_block]; exact Kd.own_blk (Kd.R_ne HO291.out BK299.out (by decide))) | (show (Addr.add _ _).block ≠ _; rw [add_block]; exact Kd.own_blk (Kd.R_ne HO291.out BK299.out (by decide))) | (dsimp only; exact Kd.own_blk (Kd.R_ne HO291.out BK299.out (by decide)))) _).trans (((cell_far (p := ⟨gb299, _, none⟩) (by first | exact Kd.own_blk (Kd.R_ne HO291.out BK299.out (by decide)) | (rw [add_block]; exact Kd.own_blk (Kd.R_ne HO291.out BK299.out (by decide))) | (show (Addr.add _ _).block ≠ _; rw [add_block]; exact Kd.own_blk (Kd.R_ne HO291.out BK299.out (by decide))) | (dsimp only; exact Kd.own_blk (Kd.R_ne HO291.out BK299.out (by decide)))) _).trans (((cell_far (p := ⟨gb299, _, none⟩) (by first | exact Kd.own_blk (Kd.R_ne HO291.out BK299.out (by decide)) | (rw [add_block]; exact Kd.own_blk (Kd.R_ne HO291.out BK299.out (by decide))) | (show (Addr.add _ _).block ≠ _; rw [add_block]; exact Kd.own_blk (Kd.R_ne HO291.out BK299.out (by decide))) | (dsimp only; exact Kd.own_blk (Kd.R_ne HO291.out BK299.out (by decide)))) _).trans (((cell_far (p := ⟨gb299, _, none⟩) (by first | exact Kd.own_blk (Kd.R_ne HO291.out BK299.out (by decide)) | (rw [add_block]; exact Kd.own_blk (Kd.R_ne HO291.out BK299.out (by decide))) | (show (Addr.add _ _).block ≠ _; rw [add_block]; exact Kd.own_blk (Kd.R_ne HO291.out BK299.out (by decide))) | (dsimp only; exact Kd.own_blk (Kd.R_ne HO291.out BK299.out (by decide)))) _).trans (((cell_far (p := ⟨gb299, _, none⟩) (by first | exact Kd.own_blk (Kd.R_ne HO291.out BK299.out (by decide)) | (rw [add_block]; exact Kd.own_blk (Kd.R_ne HO291.out BK299.out (by decide))) | (show (Addr.add _ _).block ≠ _; rw [add_block]; exact Kd.own_blk (Kd.R_ne HO291.out BK299.out (by decide))) | (dsimp only; exact Kd.own_blk (Kd.R_ne HO291.out BK299.out (by decide)))) _).trans (hHeld.2.2.2.1)))))))))), ((cell_far (p := ⟨gb299, _, none⟩) (by first | exact Kd.own_blk (Kd.R_ne HO291.out BK299.out (by decide)) | (rw [add_block]; exact Kd.own_blk (Kd.R_ne HO291.out BK299.out (by decide))) | (show (Addr.add _ _).block ≠ _; rw [add_block]; exact Kd.own_blk (Kd.R_ne HO291.out BK299.out (by decide))) | (dsimp only; exact Kd.own_blk (Kd.R_ne HO291.out BK299.out (by decide)))) _).trans (((cell_far (p := ⟨gb299, _, none⟩) (by first | exact Kd.own_blk (Kd.R_ne HO291.out BK299.out (by decide)) | (rw [add_block]; exact Kd.own_blk (Kd.R_ne HO291.out BK299.out (by decide))) | (show (Addr.add _ _).block ≠ _; rw [add_block]; exact Kd.own_blk (Kd.R_ne HO291.out BK299.out (by decide))) | (dsimp only; exact Kd.own_blk (Kd.R_ne HO291.out BK299.out (by decide)))) _).trans (((cell_far (p := ⟨gb299, _, none⟩) (by first | exact Kd.own_blk (Kd.R_ne HO291.out BK299.out (by decide)) | (rw [add_block]; exact Kd.own_blk (Kd.R_ne HO291.out BK299.out (by decide))) | (show (Addr.add _ _).block ≠ _; rw [add_block]; exact Kd.own_blk (Kd.R_ne HO291.out BK299.out (by decide))) | (dsimp only; exact Kd.own_blk (Kd.R_ne HO291.out BK299.out (by decide)))) _).trans (((cell_far (p := ⟨gb299, _, none⟩) (by first | exact Kd.own_blk (Kd.R_ne HO291.out BK299.out (by decide)) | (rw [add_block]; exact Kd.own_blk (Kd.R_ne HO291.out BK299.out (by decide))) | (show (Addr.add _ _).block ≠ _; rw [add_block]; exact Kd.own_blk (Kd.R_ne HO291.out BK299.out (by decide))) | (dsimp only; exact Kd.own_blk (Kd.R_ne HO291.out BK299.out (by decide)))) _).trans (((cell_far (p := ⟨gb299, _, none⟩) (by first | exact Kd.own_blk (Kd.R_ne HO291.out BK299.out (by decide)) | (rw [add_block]; exact Kd.own_blk (Kd.R_ne HO291.out BK299.out (by decide))) | (show (Addr.add _ _).block ≠ _; rw [add_block]; exact Kd.own_blk (Kd.R_ne HO291.out BK299.out (by decide))) | (dsimp only; exact Kd.own_blk (Kd.R_ne HO291.out BK299.out (by decide)))) _).trans (hHeld.2.2.2.2))))))))))⟩ (fun hHeld => ?_)
                      clear hK K
                      refine done_ (done_of HT_.out (by kernel_rfl)) ?_
                      have hnb50 := NB299_284.out
                      have hnc50 := NB284_299.out
                      have hcz51_0 : w44.cell? ⟨gb299, 0, none⟩ = some (.int .i64 0) := (blk_cell BK299.out 0).trans rfl
                      have hcz51_1 : w44.cell? ⟨gb299, 1, none⟩ = some (.int .i64 0) := (blk_cell BK299.out 1).trans rfl
                      have hcz51_2 : w44.cell? ⟨gb299, 2, none⟩ = some (.int .i64 0) := (blk_cell BK299.out 2).trans rfl
                      have hcz51_3 : w44.cell? ⟨gb299, 3, none⟩ = some (.int .i64 0) := (blk_cell BK299.out 3).trans rfl
                      have hcz51_4 : w44.cell? ⟨gb299, 4, none⟩ = some (.int .i64 0) := (blk_cell BK299.out 4).trans rfl
                      have hfz51_0 := blk_frozen BK299.out 0
                      have hfz51_1 := blk_frozen BK299.out 1
                      have hfz51_2 := blk_frozen BK299.out 2
                      have hfz51_3 := blk_frozen BK299.out 3
                      have hfz51_4 := blk_frozen BK299.out 4
                      try go_wp2_with (first | ((with_reducible refine gate_callee (f := 11) rfl ?_); refine goesL_ (some 51) rfl rfl Tryd.func11 (by kernel_rfl) rfl #[.agg #[.int .i64 (rd t289 0), .int .i64 (rd t289 1), .int .i64 (rd t289 2), .int .i64 (rd t289 3), .int .i64 (rd t289 4)]] rfl (by (try simp only [List.map_toArray, List.map_cons, List.map_nil]); first | done | rfl | (simp only [List.length_drop, List.length_take]; rfl)) ?_; (with_reducible refine (packet_May.calls (rd t289 0) (rd t289 1) (rd t289 2) (rd t289 3) (rd t289 4) false _ A17.out).mono ?_); rintro e w52 ⟨rfl, hb⟩; refine ⟨_, rfl, ?_⟩; have n1_ := Aside0.mk (Kd.R_below (by (with_reducible repeat (first | apply Kd.R_alloc | apply Kd.R_drewN | apply Kd.R_drew)); exact (Kd.R_mono (Kd.R_far (p := ⟨gb299, 4, none⟩) (Kd.R_far (p := ⟨gb299, 3, none⟩) (Kd.R_far (p := ⟨gb299, 2, none⟩) (Kd.R_far (p := ⟨gb299, 1, none⟩) (Kd.R_far (p := ⟨gb299, 0, none⟩) (Kd.R_types HO291.out BK299.out (by decide)) (fun _ hk => hk.2) (.int .i64 (rd t289 0))) (fun _ hk => hk.2) (.int .i64 (rd t289 1))) (fun _ hk => hk.2) (.int .i64 (rd t289 2))) (fun _ hk => hk.2) (.int .i64 (rd t289 3))) (fun _ hk => hk.2) (.int .i64 (rd t289 4))) (fun _ h_ => h_.1))) hb); have n2_ := Aside0.mk (blk_below (g := gb284) (o := .cells #[.int .i64 0, .int .i64 0, .int .i64 0, .int .i64 0, .int .i64 0] 23 (0, 0)) (by (with_reducible repeat (first | refine blk_drewN ?_ _ | refine blk_drew ?_ | refine blk_alloc ?_ _)); refine blk_far ?_ NB284_299.out _; (with_reducible repeat (first | refine blk_drewN ?_ _ | refine blk_drew ?_ | refine blk_alloc ?_ _)); refine blk_far ?_ NB284_299.out _; (with_reducible repeat (first | refine blk_drewN ?_ _ | refine blk_drew ?_ | refine blk_alloc ?_ _)); refine blk_far ?_ NB284_299.out _; (with_reducible repeat (first | refine blk_drewN ?_ _ | refine blk_drew ?_ | refine blk_alloc ?_ _)); refine blk_far ?_ NB284_299.out _; (with_reducible repeat (first | refine blk_drewN ?_ _ | refine blk_drew ?_ | refine blk_alloc ?_ _)); refine blk_far ?_ NB284_299.out _; (with_reducible repeat (first | refine blk_drewN ?_ _ | refine blk_drew ?_ | refine blk_alloc ?_ _)); exact BK284.out) hb); have n3_ := Aside0.mk (blk_below (g := gb299) (o := .cells #[.int .i64 (rd t289 0), .int .i64 (rd t289 1), .int .i64 (rd t289 2), .int .i64 (rd t289 3), .int .i64 (rd t289 4)] 23 (0, 0)) (by (with_reducible repeat (first | refine blk_drewN ?_ _ | refine blk_drew ?_ | refine blk_alloc ?_ _)); refine blk_put (cs := #[.int .i64 (rd t289 0), .int .i64 (rd t289 1), .int .i64 (rd t289 2), .int .i64 (rd t289 3), .int .i64 0]) ?_ 4 _ rfl; (with_reducible repeat (first | refine blk_drewN ?_ _ | refine blk_drew ?_ | refine blk_alloc ?_ _)); refine blk_put (cs := #[.int .i64 (rd t289 0), .int .i64 (rd t289 1), .int .i64 (rd t289 2), .int .i64 0, .int .i64 0]) ?_ 3 _ rfl; (with_reducible repeat (first | refine blk_drewN ?_ _ | refine blk_drew ?_ | refine blk_alloc ?_ _)); refine blk_put (cs := #[.int .i64 (rd t289 0), .int .i64 (rd t289 1), .int .i64 0, .int .i64 0, .int .i64 0]) ?_ 2 _ rfl; (with_reducible repeat (first | refine blk_drewN ?_ _ | refine blk_drew ?_ | refine blk_alloc ?_ _)); refine blk_put (cs := #[.int .i64 (rd t289 0), .int .i64 0, .int .i64 0, .int .i64 0, .int .i64 0]) ?_ 1 _ rfl; (with_reducible repeat (first | refine blk_drewN ?_ _ | refine blk_drew ?_ | refine blk_alloc ?_ _)); refine blk_put (cs := #[.int .i64 0, .int .i64 0, .int .i64 0, .int .i64 0, .int .i64 0]) ?_ 0 _ rfl; (with_reducible repeat (first | refine blk_drewN ?_ _ | refine blk_drew ?_ | refine blk_alloc ?_ _)); exact BK299.out) hb); have n4_ := Aside0.mk (below_step (by repeat (first | (with_reducible first | exact HB.out | apply below_alloc | apply pw_below_drewN | apply below_drew1 | refine below_set ?_ GE284.out | refine below_set ?_ GE299.out) | exact HB.out)) hb); clear HO291; clear BK284; clear BK299; clear HB; have HO291 := n1_; have BK284 := n2_; have BK299 := n3_; have HB := n4_; clear n1_ n2_ n3_ n4_; (try clear hb); (try clear hb2); (try clear hk); (try clear hi); have hcz53_0 : w52.cell? ⟨gb284, 0, none⟩ = some (.int .i64 0) := (blk_cell BK284.out 0).trans rfl; have hcz53_1 : w52.cell? ⟨gb284, 1, none⟩ = some (.int .i64 0) := (blk_cell BK284.out 1).trans rfl; have hcz53_2 : w52.cell? ⟨gb284, 2, none⟩ = some (.int .i64 0) := (blk_cell BK284.out 2).trans rfl; have hcz53_3 : w52.cell? ⟨gb284, 3, none⟩ = some (.int .i64 0) := (blk_cell BK284.out 3).trans rfl; have hcz53_4 : w52.cell? ⟨gb284, 4, none⟩ = some (.int .i64 0) := (blk_cell BK284.out 4).trans rfl; have hfz53_0 := blk_frozen BK284.out 0; have hfz53_1 := blk_frozen BK284.out 1; have hfz53_2 := blk_frozen BK284.out 2; have hfz53_3 := blk_frozen BK284.out 3; have hfz53_4 := blk_frozen BK284.out 4))
                      refine bodyPost_ret (results_ct rfl _ _ gb284 23 #[.int .i64 0, .int .i64 0, .int .i64 0, .int .i64 0, .int .i64 0] (0, 0) _ rfl (by (with_reducible repeat (first | refine blk_drewN ?_ _ | refine blk_drew ?_ | refine blk_alloc ?_ _)); refine blk_put (cs := #[.int .i64 0, .int .i64 0, .int .i64 0, .int .i64 0, .int .i64 0]) ?_ 4 _ rfl; (with_reducible repeat (first | refine blk_drewN ?_ _ | refine blk_drew ?_ | refine blk_alloc ?_ _)); refine blk_put (cs := #[.int .i64 0, .int .i64 0, .int .i64 0, .int .i64 0, .int .i64 0]) ?_ 3 _ rfl; (with_reducible repeat (first | refine blk_drewN ?_ _ | refine blk_drew ?_ | refine blk_alloc ?_ _)); refine blk_put (cs := #[.int .i64 0, .int .i64 0, .int .i64 0, .int .i64 0, .int .i64 0]) ?_ 2 _ rfl; (with_reducible repeat (first | refine blk_drewN ?_ _ | refine blk_drew ?_ | refine blk_alloc ?_ _)); refine blk_put (cs := #[.int .i64 0, .int .i64 0, .int .i64 0, .int .i64 0, .int .i64 0]) ?_ 1 _ rfl; (with_reducible repeat (first | refine blk_drewN ?_ _ | refine blk_drew ?_ | refine blk_alloc ?_ _)); refine blk_put (cs := #[.int .i64 0, .int .i64 0, .int .i64 0, .int .i64 0, .int .i64 0]) ?_ 0 _ rfl; (with_reducible repeat (first | refine blk_drewN ?_ _ | refine blk_drew ?_ | refine blk_alloc ?_ _)); exact BK284.out) Tryd.underlying23 rfl (by kernel_rfl)) rfl ?_
                      exact ⟨by first | rfl | (simp [errW_none, errW_some] <;> rfl) | (simp [*, errW_none, errW_some] <;> rfl), by repeat (first | (with_reducible first | exact HB.out | apply below_alloc | apply pw_below_drewN | apply below_drew1 | refine below_set ?_ GE284.out | refine below_set ?_ GE299.out) | exact HB.out)⟩
                  · rw [if_neg c16] at H
                    exact absurd H (by simp)
                · rw [if_neg c15] at H
                  exact absurd H (by simp)
              · rw [if_neg c14] at H
                exact absurd H (by simp)
            · rw [if_neg c13] at H
              exact absurd H (by simp)
          · rw [if_neg c12] at H
            exact absurd H (by simp)
        · rw [if_neg c11] at H
          have c11b0 : (t293 == 0) = false := beq_eq_false_iff_ne.mpr c11
          have c11b1 : (t293 != 0) = true := bne_iff_ne.mpr c11
          simp only [Option.some.injEq, Prod.mk.injEq] at H
          obtain ⟨rfl, rfl, rfl, rfl, rfl, rfl⟩ := H
          go_enter Tryd.func13, Tryd.ntmps13
          go_wp2_with (first | ((with_reducible refine gate_dst (N := 2) rfl ?_); refine box_event ?hg (N := 2) ?hd (cs := #[.int .i64 0, .int .i64 0, .int .i64 0, .int .i64 0, .int .i64 0]) (t := 23) ?hr ?_; (case hd => rfl); (case hg => rfl); (case hr => first | (go_simp; done) | (go_simp; rfl)); intro gb284 hg w54 hbox hb; have n0_ := Aside0.mk (below_step (by repeat (first | (with_reducible first | exact HB.out | apply below_alloc | apply pw_below_drewN | apply below_drew1) | exact HB.out)) hb); have n1_ := Aside0.mk (hbox); have n2_ := Aside0.mk ((by rw [hg]; exact (below_size (by repeat (first | (with_reducible first | exact HB.out | apply below_alloc | apply pw_below_drewN | apply below_drew1) | exact HB.out))) : w.heap.size ≤ gb284)); have n3_ := Aside0.mk ((by rw [hg]; exact (below_size (by repeat (first | (with_reducible first | exact HB.out | apply below_alloc | apply pw_below_drewN | apply below_drew1) | exact HB.out))) : w.heap.size ≤ gb284)); clear HB; have HB := n0_; have BK284 := n1_; have GW284 := n2_; have GE284 := n3_; clear n0_ n1_ n2_ n3_; clear hb hbox hg) | ((with_reducible refine gate_callee (f := 17) rfl ?_); refine goesL_ (some 20) rfl rfl Tryd.func17 (by kernel_rfl) rfl #[.slice A0 l0.length c0] rfl (by (try simp only [List.map_toArray, List.map_cons, List.map_nil]); first | done | rfl | (simp only [List.length_drop, List.length_take]; rfl)) ?_; (with_reducible refine (octets_Sum.calls _ _ l0 t285 _ ?side1 ?side2 A8.out).mono ?_); (case side1 => repeat (first | exact (Kd.C_below HR0.out HB.out) | (with_reducible refine Kd.C_alloc ?_ _) | (with_reducible refine Kd.C_drewN ?_ _) | (with_reducible refine Kd.C_drew ?_))); (case side2 => exact HC0.out); rintro e w' ⟨rfl, ⟨nd, rfl⟩⟩; refine ⟨_, rfl, ?_⟩; (try (rw [drewN_self w54]; generalize hq_ : World.drewN w54 _ = w54; have n0_ : Aside0 (w54.heap[gb284]? = some (.cells #[.int .i64 0, .int .i64 0, .int .i64 0, .int .i64 0, .int .i64 0] 23 (0, 0))) := ⟨by rw [← hq_]; exact (by (with_reducible repeat (first | refine blk_drewN ?_ _ | refine blk_drew ?_ | refine blk_alloc ?_ _)); exact BK284.out)⟩; have n1_ : Aside0 (Below w.heap.size w w54) := ⟨by rw [← hq_]; exact (by repeat (first | (with_reducible first | exact HB.out | apply below_alloc | apply pw_below_drewN | apply below_drew1 | refine below_set ?_ GE284.out) | exact HB.out))⟩; clear BK284 HB hq_; have BK284 := n0_; have HB := n1_; clear n0_ n1_))) | ((with_reducible refine gate_callee (f := 22) rfl ?_); refine goesL_ (some 26) rfl rfl Tryd.func22 (by kernel_rfl) rfl #[.slice A0 l0.length c0, .slice (some ⟨0, 0, none⟩) 5 5] rfl (by (try simp only [List.map_toArray, List.map_cons, List.map_nil]); first | done | rfl | (simp only [List.length_drop, List.length_take]; rfl)) ?_; (refine calls_of_args ?sideA ((octets_GetAll.calls k (fun k_ => k_ < w.heap.size) A0 c0 l0 (some ⟨0, 0, none⟩) 5 y286 t289 t292 t293 _ ?side1 ?side2 ?side3 A10.out).mono ?_)); (case sideA => (rw [Ny286.out]; rfl)); (case side1 => exact Kd.V_mk HC0.out (Kd.F_below (Kd.C_F (Kd.heap_int .u8) HR0.out) (by repeat (first | (with_reducible first | exact HB.out | apply below_alloc | apply pw_below_drewN | apply below_drew1 | refine below_set ?_ GE284.out) | exact HB.out)))); (case side2 => exact (hG.below rfl (by repeat (first | (with_reducible first | exact HB.out | apply below_alloc | apply pw_below_drewN | apply below_drew1 | refine below_set ?_ GE284.out | refine below_set ?_ GE299.out) | exact HB.out))).C Ny286.out); (case side3 => (rw [Ny286.out]; decide)); rintro e w58 ⟨v290, rfl, ho0, hb⟩; refine ⟨_, rfl, ?_⟩; have n1_ := Aside0.mk (Kd.R_lower (Kd.R_mono (ok' := fun k_ => True) ho0 (fun _ hk_ => trivial)) (below_size (by repeat (first | (with_reducible first | exact HB.out | apply below_alloc | apply pw_below_drewN | apply below_drew1 | refine below_set ?_ GE284.out | refine below_set ?_ GE299.out) | exact HB.out)))); have n2_ := Aside0.mk (blk_below (g := gb284) (o := .cells #[.int .i64 0, .int .i64 0, .int .i64 0, .int .i64 0, .int .i64 0] 23 (0, 0)) (by (with_reducible repeat (first | refine blk_drewN ?_ _ | refine blk_drew ?_ | refine blk_alloc ?_ _)); exact BK284.out) hb); have n3_ := Aside0.mk (below_step (by repeat (first | (with_reducible first | exact HB.out | apply below_alloc | apply pw_below_drewN | apply below_drew1 | refine below_set ?_ GE284.out) | exact HB.out)) hb); clear BK284; clear HB; have HO291 := n1_; have BK284 := n2_; have HB := n3_; clear n1_ n2_ n3_; (try clear hb); (try clear hb2); (try clear hk); (try clear hi); (try clear ho0); have hcz59_0 : w58.cell? ⟨gb284, 0, none⟩ = some (.int .i64 0) := (blk_cell BK284.out 0).trans rfl; have hcz59_1 : w58.cell? ⟨gb284, 1, none⟩ = some (.int .i64 0) := (blk_cell BK284.out 1).trans rfl; have hcz59_2 : w58.cell? ⟨gb284, 2, none⟩ = some (.int .i64 0) := (blk_cell BK284.out 2).trans rfl; have hcz59_3 : w58.cell? ⟨gb284, 3, none⟩ = some (.int .i64 0) := (blk_cell BK284.out 3).trans rfl; have hcz59_4 : w58.cell? ⟨gb284, 4, none⟩ = some (.int .i64 0) := (blk_cell BK284.out 4).trans rfl; have hfz59_0 := blk_frozen BK284.out 0; have hfz59_1 := blk_frozen BK284.out 1; have hfz59_2 := blk_frozen BK284.out 2; have hfz59_3 := blk_frozen BK284.out 3; have hfz59_4 := blk_frozen BK284.out 4))
          refine bodyPost_ret (results_ct rfl _ _ gb284 23 #[.int .i64 0, .int .i64 0, .int .i64 0, .int .i64 0, .int .i64 0] (0, 0) _ rfl (by (with_reducible repeat (first | refine blk_drewN ?_ _ | refine blk_drew ?_ | refine blk_alloc ?_ _)); refine blk_put (cs := #[.int .i64 0, .int .i64 0, .int .i64 0, .int .i64 0, .int .i64 0]) ?_ 4 _ rfl; (with_reducible repeat (first | refine blk_drewN ?_ _ | refine blk_drew ?_ | refine blk_alloc ?_ _)); refine blk_put (cs := #[.int .i64 0, .int .i64 0, .int .i64 0, .int .i64 0, .int .i64 0]) ?_ 3 _ rfl; (with_reducible repeat (first | refine blk_drewN ?_ _ | refine blk_drew ?_ | refine blk_alloc ?_ _)); refine blk_put (cs := #[.int .i64 0, .int .i64 0, .int .i64 0, .int .i64 0, .int .i64 0]) ?_ 2 _ rfl; (with_reducible repeat (first | refine blk_drewN ?_ _ | refine blk_drew ?_ | refine blk_alloc ?_ _)); refine blk_put (cs := #[.int .i64 0, .int .i64 0, .int .i64 0, .int .i64 0, .int .i64 0]) ?_ 1 _ rfl; (with_reducible repeat (first | refine blk_drewN ?_ _ | refine blk_drew ?_ | refine blk_alloc ?_ _)); refine blk_put (cs := #[.int .i64 0, .int .i64 0, .int .i64 0, .int .i64 0, .int .i64 0]) ?_ 0 _ rfl; (with_reducible repeat (first | refine blk_drewN ?_ _ | refine blk_drew ?_ | refine blk_alloc ?_ _)); exact BK284.out) Tryd.underlying23 rfl (by kernel_rfl)) rfl ?_
          exact ⟨by first | rfl | (simp [errW_none, errW_some] <;> rfl) | (simp [*, errW_none, errW_some] <;> rfl), by repeat (first | (with_reducible first | exact HB.out | apply below_alloc | apply pw_below_drewN | apply below_drew1 | refine below_set ?_ GE284.out) | exact HB.out)⟩
      · rw [if_neg c9] at H
        have c9b0 : (t285 == 0) = false := beq_eq_false_iff_ne.mpr c9
        have c9b1 : (t285 != 0) = true := bne_iff_ne.mpr c9
        simp only [Option.some.injEq, Prod.mk.injEq] at H
        obtain ⟨rfl, rfl, rfl, rfl, rfl, rfl⟩ := H
        go_enter Tryd.func13, Tryd.ntmps13
        go_wp2_with (first | ((with_reducible refine gate_dst (N := 2) rfl ?_); refine box_event ?hg (N := 2) ?hd (cs := #[.int .i64 0, .int .i64 0, .int .i64 0, .int .i64 0, .int .i64 0]) (t := 23) ?hr ?_; (case hd => rfl); (case hg => rfl); (case hr => first | (go_simp; done) | (go_simp; rfl)); intro gb284 hg w60 hbox hb; have n0_ := Aside0.mk (below_step (by repeat (first | (with_reducible first | exact HB.out | apply below_alloc | apply pw_below_drewN | apply below_drew1) | exact HB.out)) hb); have n1_ := Aside0.mk (hbox); have n2_ := Aside0.mk ((by rw [hg]; exact (below_size (by repeat (first | (with_reducible first | exact HB.out | apply below_alloc | apply pw_below_drewN | apply below_drew1) | exact HB.out))) : w.heap.size ≤ gb284)); have n3_ := Aside0.mk ((by rw [hg]; exact (below_size (by repeat (first | (with_reducible first | exact HB.out | apply below_alloc | apply pw_below_drewN | apply below_drew1) | exact HB.out))) : w.heap.size ≤ gb284)); clear HB; have HB := n0_; have BK284 := n1_; have GW284 := n2_; have GE284 := n3_; clear n0_ n1_ n2_ n3_; clear hb hbox hg) | ((with_reducible refine gate_callee (f := 17) rfl ?_); refine goesL_ (some 20) rfl rfl Tryd.func17 (by kernel_rfl) rfl #[.slice A0 l0.length c0] rfl (by (try simp only [List.map_toArray, List.map_cons, List.map_nil]); first | done | rfl | (simp only [List.length_drop, List.length_take]; rfl)) ?_; (with_reducible refine (octets_Sum.calls _ _ l0 t285 _ ?side1 ?side2 A8.out).mono ?_); (case side1 => repeat (first | exact (Kd.C_below HR0.out HB.out) | (with_reducible refine Kd.C_alloc ?_ _) | (with_reducible refine Kd.C_drewN ?_ _) | (with_reducible refine Kd.C_drew ?_))); (case side2 => exact HC0.out); rintro e w' ⟨rfl, ⟨nd, rfl⟩⟩; refine ⟨_, rfl, ?_⟩; (try (rw [drewN_self w60]; generalize hq_ : World.drewN w60 _ = w60; have n0_ : Aside0 (w60.heap[gb284]? = some (.cells #[.int .i64 0, .int .i64 0, .int .i64 0, .int .i64 0, .int .i64 0] 23 (0, 0))) := ⟨by rw [← hq_]; exact (by (with_reducible repeat (first | refine blk_drewN ?_ _ | refine blk_drew ?_ | refine blk_alloc ?_ _)); exact BK284.out)⟩; have n1_ : Aside0 (Below w.heap.size w w60) := ⟨by rw [← hq_]; exact (by repeat (first | (with_reducible first | exact HB.out | apply below_alloc | apply pw_below_drewN | apply below_drew1 | refine below_set ?_ GE284.out) | exact HB.out))⟩; clear BK284 HB hq_; have BK284 := n0_; have HB := n1_; clear n0_ n1_)); have hcz61_0 : w60.cell? ⟨gb284, 0, none⟩ = some (.int .i64 0) := (blk_cell BK284.out 0).trans rfl; have hcz61_1 : w60.cell? ⟨gb284, 1, none⟩ = some (.int .i64 0) := (blk_cell BK284.out 1).trans rfl; have hcz61_2 : w60.cell? ⟨gb284, 2, none⟩ = some (.int .i64 0) := (blk_cell BK284.out 2).trans rfl; have hcz61_3 : w60.cell? ⟨gb284, 3, none⟩ = some (.int .i64 0) := (blk_cell BK284.out 3).trans rfl; have hcz61_4 : w60.cell? ⟨gb284, 4, none⟩ = some (.int .i64 0) := (blk_cell BK284.out 4).trans rfl; have hfz61_0 := blk_frozen BK284.out 0; have hfz61_1 := blk_frozen BK284.out 1; have hfz61_2 := blk_frozen BK284.out 2; have hfz61_3 := blk_frozen BK284.out 3; have hfz61_4 := blk_frozen BK284.out 4))
        refine bodyPost_ret (results_ct rfl _ _ gb284 23 #[.int .i64 0, .int .i64 0, .int .i64 0, .int .i64 0, .int .i64 0] (0, 0) _ rfl (by (with_reducible repeat (first | refine blk_drewN ?_ _ | refine blk_drew ?_ | refine blk_alloc ?_ _)); refine blk_put (cs := #[.int .i64 0, .int .i64 0, .int .i64 0, .int .i64 0, .int .i64 0]) ?_ 4 _ rfl; (with_reducible repeat (first | refine blk_drewN ?_ _ | refine blk_drew ?_ | refine blk_alloc ?_ _)); refine blk_put (cs := #[.int .i64 0, .int .i64 0, .int .i64 0, .int .i64 0, .int .i64 0]) ?_ 3 _ rfl; (with_reducible repeat (first | refine blk_drewN ?_ _ | refine blk_drew ?_ | refine blk_alloc ?_ _)); refine blk_put (cs := #[.int .i64 0, .int .i64 0, .int .i64 0, .int .i64 0, .int .i64 0]) ?_ 2 _ rfl; (with_reducible repeat (first | refine blk_drewN ?_ _ | refine blk_drew ?_ | refine blk_alloc ?_ _)); refine blk_put (cs := #[.int .i64 0, .int .i64 0, .int .i64 0, .int .i64 0, .int .i64 0]) ?_ 1 _ rfl; (with_reducible repeat (first | refine blk_drewN ?_ _ | refine blk_drew ?_ | refine blk_alloc ?_ _)); refine blk_put (cs := #[.int .i64 0, .int .i64 0, .int .i64 0, .int .i64 0, .int .i64 0]) ?_ 0 _ rfl; (with_reducible repeat (first | refine blk_drewN ?_ _ | refine blk_drew ?_ | refine blk_alloc ?_ _)); exact BK284.out) Tryd.underlying23 rfl (by kernel_rfl)) rfl ?_
        exact ⟨by first | rfl | (simp [errW_none, errW_some] <;> rfl) | (simp [*, errW_none, errW_some] <;> rfl), by repeat (first | (with_reducible first | exact HB.out | apply below_alloc | apply pw_below_drewN | apply below_drew1 | refine below_set ?_ GE284.out) | exact HB.out)⟩

end Go.Proofs.YtkidokbeabmpmaaDoor.All
