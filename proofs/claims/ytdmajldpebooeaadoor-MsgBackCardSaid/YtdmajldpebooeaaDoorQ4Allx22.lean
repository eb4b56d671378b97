/- Contracts of Go functions that this seat comes to, each with a plain function that tells its answers; conditions: those that each contract names. Written by a program of this session (wip/print) over the print words. -/
import Derived.Test.YtdmajldpebooeaaDoorQ4Allx0
import Derived.Test.YtdmajldpebooeaaDoorQ4Allx3
import Derived.Test.YtdmajldpebooeaaDoorQ4Allx6
import Derived.Test.YtdmajldpebooeaaDoorQ4Allx7
import Derived.Test.YtdmajldpebooeaaDoorQ4Allx17
namespace Go.Proofs.YtdmajldpebooeaaDoor.All
open Go.RowKit Go.Proofs.YtdmajldpebooeaaDoorW.PrintWords Go.Proofs.YtdmajldpebooeaaDoorW.PrintLast Go.Proofs.YtdmajldpebooeaaDoorW.PrintMore
attribute [local go_sem] max2_int min2_int max_two min_two max_three min_three max_four min_four
set_option linter.unusedVariables false
set_option linter.unusedSimpArgs false
attribute [local go_sem high] eqA29
mutual
def wayfinderlaw05_MsgBack.j0 : Nat → List Int → Bool → Bool → Int → Int → Int → Int → Int → Int → Int → Int → Int → Int → Option (Bool)
  | 0, _, _, _, _, _, _, _, _, _, _, _, _, _ => none
  | k + 1, x1, x5, x21, x356000, x356001, x356002, x356003, x356004, x356005, x356006, x356007, x356008, x356009 => if x21 = true then (some x5) else ((msg_Put.f k x356000 x356001 x356002 x356003 x356004 x356005 x356006 x356007 x356008 x356009).bind fun bt357 => ((msg_May.f x356000 x356001 x356002 x356003 x356004 x356005 x356006 x356007 x356008 x356009).bind fun t361 => (if ((bt357.2 == 0) != t361) = true then (none) else (if bt357.2 = 0 then ((msg_Get.f k bt357.1).bind fun bt362 => (if bt362.2.2.2.2.2.2.2.2.2.2 = 0 then (if (!(bt362.1 == x356000) || (!(bt362.2.1 == x356001) || (!(bt362.2.2.1 == x356002) || (!(bt362.2.2.2.1 == x356003) || (((!(bt362.2.2.2.2.1 == x356004) || (!(bt362.2.2.2.2.2.1 == x356005))) || (!(bt362.2.2.2.2.2.2.1 == x356006) || (!(bt362.2.2.2.2.2.2.2.1 == x356007) || ((!(bt362.2.2.2.2.2.2.2.2.1 == x356008) || (!(bt362.2.2.2.2.2.2.2.2.2.1 == x356009)))))))))))) = true then (none) else (wayfinderlaw05_MsgBack.j1 k x1)) else (none))) else (wayfinderlaw05_MsgBack.j1 k x1)))))
def wayfinderlaw05_MsgBack.j1 : Nat → List Int → Option (Bool)
  | 0, _ => none
  | k + 1, x1 => (msg_Get.f k x1).bind fun bt374 => (if bt374.2.2.2.2.2.2.2.2.2.2 = 0 then ((msg_Put.f k bt374.1 bt374.2.1 bt374.2.2.1 bt374.2.2.2.1 bt374.2.2.2.2.1 bt374.2.2.2.2.2.1 bt374.2.2.2.2.2.2.1 bt374.2.2.2.2.2.2.2.1 bt374.2.2.2.2.2.2.2.2.1 bt374.2.2.2.2.2.2.2.2.2.1).bind fun bt386 => (if bt386.2 = 0 then (some ((strOfNums bt386.1).toList == (strOfNums x1).toList)) else (none))) else (some (bt374.1 == 0 && (bt374.2.1 == 0 && (bt374.2.2.1 == 0 && (bt374.2.2.2.1 == 0 && (((bt374.2.2.2.2.1 == 0 && (bt374.2.2.2.2.2.1 == 0)) && (bt374.2.2.2.2.2.2.1 == 0 && (bt374.2.2.2.2.2.2.2.1 == 0 && ((bt374.2.2.2.2.2.2.2.2.1 == 0 && (bt374.2.2.2.2.2.2.2.2.2.1 == 0)))))))))))))
end
def wayfinderlaw05_MsgBack.f (k : Nat) (a0_0 : Int) (a0_1 : Int) (a0_2 : Int) (a0_3 : Int) (a0_4 : Int) (a0_5 : Int) (a0_6 : Int) (a0_7 : Int) (a0_8 : Int) (a0_9 : Int) (l1 : List Int) : Option (Bool) := (wayfinderlaw05_awake.f k).bind fun t356 => (if t356 = true then (wayfinderlaw05_MsgBack.j0 k l1 t356 (decide ((l1.length : Int) > 3000)) a0_0 a0_1 a0_2 a0_3 a0_4 a0_5 a0_6 a0_7 a0_8 a0_9) else (wayfinderlaw05_MsgBack.j0 k l1 t356 true a0_0 a0_1 a0_2 a0_3 a0_4 a0_5 a0_6 a0_7 a0_8 a0_9))
theorem wayfinderlaw05_MsgBack.mono_l : ∀ k, (∀ y0 y1 y2 y3 y4 y5 y6 y7 y8 y9 y10 y11 y12, LeO (wayfinderlaw05_MsgBack.j0 k y0 y1 y2 y3 y4 y5 y6 y7 y8 y9 y10 y11 y12) (wayfinderlaw05_MsgBack.j0 (k + 1) y0 y1 y2 y3 y4 y5 y6 y7 y8 y9 y10 y11 y12)) ∧ (∀ y0, LeO (wayfinderlaw05_MsgBack.j1 k y0) (wayfinderlaw05_MsgBack.j1 (k + 1) y0))
  | 0 => ⟨fun _ _ _ _ _ _ _ _ _ _ _ _ _ r h => by simp [wayfinderlaw05_MsgBack.j0] at h, fun _ r h => by simp [wayfinderlaw05_MsgBack.j1] at h⟩
  | k + 1 => by
    obtain ⟨ih0, ih1⟩ := wayfinderlaw05_MsgBack.mono_l k
    refine ⟨?_, ?_⟩
    · intro y0 y1 y2 y3 y4 y5 y6 y7 y8 y9 y10 y11 y12
      unfold wayfinderlaw05_MsgBack.j0
      repeat' first
      | (with_reducible exact ih0 _ _ _ _ _ _ _ _ _ _ _ _ _)
      | (with_reducible exact ih1 _)
      | (with_reducible exact msg_Get.mono _ _)
      | (with_reducible exact msg_Put.mono _ _ _ _ _ _ _ _ _ _ _)
      | (with_reducible exact wayfinderlaw05_awake.mono _)
      | (with_reducible exact LeO.refl _)
      | (with_reducible exact LeO.none _)
      | (with_reducible refine LeO.ite ?_ ?_)
      | (with_reducible refine LeO.bind ?_ (fun _ => ?_))
      | exact ih0 _ _ _ _ _ _ _ _ _ _ _ _ _
      | exact ih1 _
      | exact msg_Get.mono _ _
      | exact msg_Put.mono _ _ _ _ _ _ _ _ _ _ _
      | exact wayfinderlaw05_awake.mono _
      | exact LeO.none _
      | refine LeO.ite ?_ ?_
      | refine LeO.bind ?_ (fun _ => ?_)
    · intro y0
      unfold wayfinderlaw05_MsgBack.j1
      repeat' first
      | (with_reducible exact ih0 _ _ _ _ _ _ _ _ _ _ _ _ _)
      | (with_reducible exact ih1 _)
      | (with_reducible exact msg_Get.mono _ _)
      | (with_reducible exact msg_Put.mono _ _ _ _ _ _ _ _ _ _ _)
      | (with_reducible exact wayfinderlaw05_awake.mono _)
      | (with_reducible exact LeO.refl _)
      | (with_reducible exact LeO.none _)
      | (with_reducible refine LeO.ite ?_ ?_)
      | (with_reducible refine LeO.bind ?_ (fun _ => ?_))
      | exact ih0 _ _ _ _ _ _ _ _ _ _ _ _ _
      | exact ih1 _
      | exact msg_Get.mono _ _
      | exact msg_Put.mono _ _ _ _ _ _ _ _ _ _ _
      | exact wayfinderlaw05_awake.mono _
      | exact LeO.none _
      | refine LeO.ite ?_ ?_
      | refine LeO.bind ?_ (fun _ => ?_)
theorem wayfinderlaw05_MsgBack.mono : ∀ a0 a1 a2 a3 a4 a5 a6 a7 a8 a9 a10 k, LeO (wayfinderlaw05_MsgBack.f k a0 a1 a2 a3 a4 a5 a6 a7 a8 a9 a10) (wayfinderlaw05_MsgBack.f (k + 1) a0 a1 a2 a3 a4 a5 a6 a7 a8 a9 a10) := by
  intro a0 a1 a2 a3 a4 a5 a6 a7 a8 a9 a10 k
  obtain ⟨ih0, ih1⟩ := wayfinderlaw05_MsgBack.mono_l k
  unfold wayfinderlaw05_MsgBack.f
  repeat' first
      | (with_reducible exact ih0 _ _ _ _ _ _ _ _ _ _ _ _ _)
      | (with_reducible exact ih1 _)
      | (with_reducible exact msg_Get.mono _ _)
      | (with_reducible exact msg_Put.mono _ _ _ _ _ _ _ _ _ _ _)
      | (with_reducible exact wayfinderlaw05_awake.mono _)
      | (with_reducible exact LeO.refl _)
      | (with_reducible exact LeO.none _)
      | (with_reducible refine LeO.ite ?_ ?_)
      | (with_reducible refine LeO.bind ?_ (fun _ => ?_))
      | exact ih0 _ _ _ _ _ _ _ _ _ _ _ _ _
      | exact ih1 _
      | exact msg_Get.mono _ _
      | exact msg_Put.mono _ _ _ _ _ _ _ _ _ _ _
      | exact wayfinderlaw05_awake.mono _
      | exact LeO.none _
      | refine LeO.ite ?_ ?_
      | refine LeO.bind ?_ (fun _ => ?_)
set_option maxHeartbeats 8000000 in
set_option maxRecDepth 100000 in
theorem wayfinderlaw05_MsgBack.calls (k : Nat) (a0_0 : Int) (a0_1 : Int) (a0_2 : Int) (a0_3 : Int) (a0_4 : Int) (a0_5 : Int) (a0_6 : Int) (a0_7 : Int) (a0_8 : Int) (a0_9 : Int) (A1 : Option Addr) (c1 : Nat) (l1 : List Int) (r : Bool) (w : World) (hr1 : Kd.C (Kd.int .u8) w A1 l1.length l1) (hc1 : l1.length ≤ c1) (hG : Glob w) (h : wayfinderlaw05_MsgBack.f k a0_0 a0_1 a0_2 a0_3 a0_4 a0_5 a0_6 a0_7 a0_8 a0_9 l1 = some r) :
    Calls Tryd.prog 7 #[.agg #[.int .i64 a0_0, .int .i64 a0_1, .int .i64 a0_2, .int .i64 a0_3, .int .i64 a0_4, .int .i64 a0_5, .int .i64 a0_6, .int .i64 a0_7, .int .i64 a0_8, .int .i64 a0_9], .slice A1 l1.length c1] w fun e w' => e = .returned (.bool r) ∧ Below w.heap.size w w' := by
  have hu29 := Tryd.underlying29
  have HR1 := Aside0.mk hr1
  have HC1 := Aside0.mk hc1
  clear hr1 hc1
  have HB := Aside0.mk (Below.refl w.heap.size w)
  have H : ((wayfinderlaw05_awake.f k).bind fun t356 => (if t356 = true then (wayfinderlaw05_MsgBack.j0 k l1 t356 (decide ((l1.length : Int) > 3000)) a0_0 a0_1 a0_2 a0_3 a0_4 a0_5 a0_6 a0_7 a0_8 a0_9) else (wayfinderlaw05_MsgBack.j0 k l1 t356 true a0_0 a0_1 a0_2 a0_3 a0_4 a0_5 a0_6 a0_7 a0_8 a0_9))) = some r := h
  clear h
  replace H := Option.bind_eq_some_iff.mp H
  obtain ⟨t356, A30, H⟩ := H
  replace H : (if t356 = true then (wayfinderlaw05_MsgBack.j0 k l1 t356 (decide ((l1.length : Int) > 3000)) a0_0 a0_1 a0_2 a0_3 a0_4 a0_5 a0_6 a0_7 a0_8 a0_9) else (wayfinderlaw05_MsgBack.j0 k l1 t356 true a0_0 a0_1 a0_2 a0_3 a0_4 a0_5 a0_6 a0_7 a0_8 a0_9)) = some r := H
  have A3 := Aside0.mk A30
  clear A30
  have HC4 := Aside0.mk H
  clear H
  go_enter Tryd.func7, Tryd.ntmps7
  go_upto_region 2 with (first | ((with_reducible refine gate_dst (N := 2) rfl ?_); (try (refine gate_guard (by rfl) ?_; dsimp only)); refine box_event ?hg (N := 2) ?hd (cs := #[.int .i64 a0_0, .int .i64 a0_1, .int .i64 a0_2, .int .i64 a0_3, .int .i64 a0_4, .int .i64 a0_5, .int .i64 a0_6, .int .i64 a0_7, .int .i64 a0_8, .int .i64 a0_9]) (t := 29) ?hr ?_; (case hd => rfl); (case hg => rfl); (case hr => first | (go_simp; done) | (go_simp; rfl)); intro gb355 hg w5 hbox hb; have n0_ := Aside0.mk (below_step (by repeat (first | (with_reducible first | exact HB.out | apply below_alloc | apply pw_below_drewN | apply below_drew1) | exact HB.out)) hb); have n1_ := Aside0.mk (hbox); have n2_ := Aside0.mk ((by rw [hg]; exact (below_size (by repeat (first | (with_reducible first | exact HB.out | apply below_alloc | apply pw_below_drewN | apply below_drew1) | exact HB.out))) : w.heap.size ≤ gb355)); have n3_ := Aside0.mk ((by rw [hg]; exact (below_size (by repeat (first | (with_reducible first | exact HB.out | apply below_alloc | apply pw_below_drewN | apply below_drew1) | exact HB.out))) : w.heap.size ≤ gb355)); clear HB; have HB := n0_; have BK355 := n1_; have GW355 := n2_; have GE355 := n3_; clear n0_ n1_ n2_ n3_; clear hb hbox hg) | ((with_reducible refine gate_callee (f := 9) rfl ?_); refine goesL_ (some 14) rfl rfl Tryd.func9 (by kernel_rfl) rfl #[] rfl (by (try simp only [List.map_toArray, List.map_cons, List.map_nil]); first | done | rfl | (simp only [List.length_drop, List.length_take]; rfl)) ?_; (with_reducible refine (wayfinderlaw05_awake.calls k  t356 _ ?sideG_ A3.out).mono ?_); (case sideG_ => exact hG.below rfl (by repeat (first | (with_reducible first | exact HB.out | apply below_alloc | apply pw_below_drewN | apply below_drew1 | refine below_set ?_ GE355.out) | exact HB.out))); rintro e w6 ⟨rfl, hb⟩; refine ⟨_, rfl, ?_⟩; have n0_ := Aside0.mk (blk_below (g := gb355) (o := .cells #[.int .i64 a0_0, .int .i64 a0_1, .int .i64 a0_2, .int .i64 a0_3, .int .i64 a0_4, .int .i64 a0_5, .int .i64 a0_6, .int .i64 a0_7, .int .i64 a0_8, .int .i64 a0_9] 29 (0, 0)) (by (with_reducible repeat (first | refine blk_drewN ?_ _ | refine blk_drew ?_ | refine blk_alloc ?_ _)); exact BK355.out) hb); have n1_ := Aside0.mk (below_step (by repeat (first | (with_reducible first | exact HB.out | apply below_alloc | apply pw_below_drewN | apply below_drew1 | refine below_set ?_ GE355.out) | exact HB.out)) hb); clear BK355; clear HB; have BK355 := n0_; have HB := n1_; clear n0_ n1_; (try clear hb); (try clear hb2); (try clear hk); (try clear hi)))
  (try simp only [Act.put, List.setIfInBounds_toArray, List.set_cons_zero, List.set_cons_succ])
  go_cut [21] (fun v21 wc => ∃ (kq : Nat) (x21_3 : Bool), v21 = .bool x21_3 ∧ Aside0 (wayfinderlaw05_MsgBack.j0 kq l1 t356 x21_3 a0_0 a0_1 a0_2 a0_3 a0_4 a0_5 a0_6 a0_7 a0_8 a0_9 = some r) ∧ Aside0 (kq ≤ k) ∧ Aside0 (wc.heap[gb355]? = some (.cells #[.int .i64 a0_0, .int .i64 a0_1, .int .i64 a0_2, .int .i64 a0_3, .int .i64 a0_4, .int .i64 a0_5, .int .i64 a0_6, .int .i64 a0_7, .int .i64 a0_8, .int .i64 a0_9] 29 (0, 0))) ∧ Aside0 (Below w.heap.size w wc))
  case first =>
    have H := HC4.out
    clear HC4
    by_cases c7 : t356 = true
    · subst c7
      have H1 : (wayfinderlaw05_MsgBack.j0 k l1 true (decide ((l1.length : Int) > 3000)) a0_0 a0_1 a0_2 a0_3 a0_4 a0_5 a0_6 a0_7 a0_8 a0_9) = some r := by rw [if_pos rfl] at H; exact H
      clear H
      have H := H1
      clear H1
      have H' := Aside0.mk H
      clear H
      go_wp2
      go_meet
      case rel => exact ⟨_, (decide ((l1.length : Int) > 3000)), (by first | rfl | (simp; done) | (simp [*]; done)), H', ⟨by first | omega | exact Nat.le_refl _⟩, ⟨by (with_reducible repeat (first | refine blk_drewN ?_ _ | refine blk_drew ?_ | refine blk_alloc ?_ _)); exact BK355.out⟩, ⟨by repeat (first | (with_reducible first | exact HB.out | apply below_alloc | apply pw_below_drewN | apply below_drew1 | refine below_set ?_ GE355.out) | exact HB.out)⟩⟩
    · replace c7 := Bool.eq_false_iff.mpr c7
      subst c7
      have H1 : (wayfinderlaw05_MsgBack.j0 k l1 false true a0_0 a0_1 a0_2 a0_3 a0_4 a0_5 a0_6 a0_7 a0_8 a0_9) = some r := by rw [if_neg (show ¬ (false = true) by decide)] at H; exact H
      clear H
      have H := H1
      clear H1
      have H' := Aside0.mk H
      clear H
      go_wp2
      go_meet
      case rel => exact ⟨_, (true), (by first | rfl | (simp; done) | (simp [*]; done)), H', ⟨by first | omega | exact Nat.le_refl _⟩, ⟨by (with_reducible repeat (first | refine blk_drewN ?_ _ | refine blk_drew ?_ | refine blk_alloc ?_ _)); exact BK355.out⟩, ⟨by repeat (first | (with_reducible first | exact HB.out | apply below_alloc | apply pw_below_drewN | apply below_drew1 | refine below_set ?_ GE355.out) | exact HB.out)⟩⟩
  case rest =>
    clear HC4
    try clear c1
    try clear p2
    try clear c7
    obtain ⟨kq, x21_3, rfl, HA, HJ3, BK355, HB⟩ := hcut
    cases kq with
    | zero => exact absurd HA.out (by simp [wayfinderlaw05_MsgBack.j0])
    | succ kj3 =>
      have H := HA.out
      clear HA
      simp only [wayfinderlaw05_MsgBack.j0] at H
      by_cases c8 : x21_3 = true
      · subst c8
        have H1 : (some t356) = some r := by rw [if_pos rfl] at H; exact H
        clear H
        have H := H1
        clear H1
        obtain rfl := Option.some.inj H
        go_wp2
        go_ret
        exact ⟨by first | rfl | (simp [errW_none, errW_some] <;> rfl) | (simp [*, errW_none, errW_some] <;> rfl), by repeat (first | (with_reducible first | exact HB.out | apply below_alloc | apply pw_below_drewN | apply below_drew1 | refine below_set ?_ GE355.out) | exact HB.out)⟩
      · replace c8 := Bool.eq_false_iff.mpr c8
        subst c8
        have H1 : ((msg_Put.f kj3 a0_0 a0_1 a0_2 a0_3 a0_4 a0_5 a0_6 a0_7 a0_8 a0_9).bind fun bt357 => ((msg_May.f a0_0 a0_1 a0_2 a0_3 a0_4 a0_5 a0_6 a0_7 a0_8 a0_9).bind fun t361 => (if ((bt357.2 == 0) != t361) = true then (none) else (if bt357.2 = 0 then ((msg_Get.f kj3 bt357.1).bind fun bt362 => (if bt362.2.2.2.2.2.2.2.2.2.2 = 0 then (if (!(bt362.1 == a0_0) || (!(bt362.2.1 == a0_1) || (!(bt362.2.2.1 == a0_2) || (!(bt362.2.2.2.1 == a0_3) || (((!(bt362.2.2.2.2.1 == a0_4) || (!(bt362.2.2.2.2.2.1 == a0_5))) || (!(bt362.2.2.2.2.2.2.1 == a0_6) || (!(bt362.2.2.2.2.2.2.2.1 == a0_7) || ((!(bt362.2.2.2.2.2.2.2.2.1 == a0_8) || (!(bt362.2.2.2.2.2.2.2.2.2.1 == a0_9)))))))))))) = true then (none) else (wayfinderlaw05_MsgBack.j1 kj3 l1)) else (none))) else (wayfinderlaw05_MsgBack.j1 kj3 l1))))) = some r := by rw [if_neg (show ¬ (false = true) by decide)] at H; exact H
        clear H
        have H := H1
        clear H1
        replace H := Option.bind_eq_some_iff.mp H
        obtain ⟨⟨t357, t360⟩, A90, H⟩ := H
        replace H : ((msg_May.f a0_0 a0_1 a0_2 a0_3 a0_4 a0_5 a0_6 a0_7 a0_8 a0_9).bind fun t361 => (if ((t360 == 0) != t361) = true then (none) else (if t360 = 0 then ((msg_Get.f kj3 t357).bind fun bt362 => (if bt362.2.2.2.2.2.2.2.2.2.2 = 0 then (if (!(bt362.1 == a0_0) || (!(bt362.2.1 == a0_1) || (!(bt362.2.2.1 == a0_2) || (!(bt362.2.2.2.1 == a0_3) || (((!(bt362.2.2.2.2.1 == a0_4) || (!(bt362.2.2.2.2.2.1 == a0_5))) || (!(bt362.2.2.2.2.2.2.1 == a0_6) || (!(bt362.2.2.2.2.2.2.2.1 == a0_7) || ((!(bt362.2.2.2.2.2.2.2.2.1 == a0_8) || (!(bt362.2.2.2.2.2.2.2.2.2.1 == a0_9)))))))))))) = true then (none) else (wayfinderlaw05_MsgBack.j1 kj3 l1)) else (none))) else (wayfinderlaw05_MsgBack.j1 kj3 l1)))) = some r := H
        have A9 := Aside0.mk A90
        clear A90
        replace H := Option.bind_eq_some_iff.mp H
        obtain ⟨t361, A100, H⟩ := H
        replace H : (if ((t360 == 0) != t361) = true then (none) else (if t360 = 0 then ((msg_Get.f kj3 t357).bind fun bt362 => (if bt362.2.2.2.2.2.2.2.2.2.2 = 0 then (if (!(bt362.1 == a0_0) || (!(bt362.2.1 == a0_1) || (!(bt362.2.2.1 == a0_2) || (!(bt362.2.2.2.1 == a0_3) || (((!(bt362.2.2.2.2.1 == a0_4) || (!(bt362.2.2.2.2.2.1 == a0_5))) || (!(bt362.2.2.2.2.2.2.1 == a0_6) || (!(bt362.2.2.2.2.2.2.2.1 == a0_7) || ((!(bt362.2.2.2.2.2.2.2.2.1 == a0_8) || (!(bt362.2.2.2.2.2.2.2.2.2.1 == a0_9)))))))))))) = true then (none) else (wayfinderlaw05_MsgBack.j1 kj3 l1)) else (none))) else (wayfinderlaw05_MsgBack.j1 kj3 l1))) = some r := H
        have A10 := Aside0.mk A100
        clear A100
        by_cases c11 : ((t360 == 0) != t361) = true
        · rw [if_pos c11] at H
          exact absurd H (by simp)
        · rw [if_neg c11] at H
          have c11b0 : ((t360 == 0) != t361) = false := by simpa using c11
          (try (have c11b1 : decide ((t360 == 0) = t361) = true := by simpa using c11))
          (try (have c11b2 : ((t360 == 0) == t361) = true := by simpa using c11))
          clear c11
          have HC12 := Aside0.mk H
          clear H
          have hcz13_0 : wc.cell? ⟨gb355, 0, none⟩ = some (.int .i64 a0_0) := (blk_cell BK355.out 0).trans rfl
          have hcz13_1 : wc.cell? ⟨gb355, 1, none⟩ = some (.int .i64 a0_1) := (blk_cell BK355.out 1).trans rfl
          have hcz13_2 : wc.cell? ⟨gb355, 2, none⟩ = some (.int .i64 a0_2) := (blk_cell BK355.out 2).trans rfl
          have hcz13_3 : wc.cell? ⟨gb355, 3, none⟩ = some (.int .i64 a0_3) := (blk_cell BK355.out 3).trans rfl
          have hcz13_4 : wc.cell? ⟨gb355, 4, none⟩ = some (.int .i64 a0_4) := (blk_cell BK355.out 4).trans rfl
          have hcz13_5 : wc.cell? ⟨gb355, 5, none⟩ = some (.int .i64 a0_5) := (blk_cell BK355.out 5).trans rfl
          have hcz13_6 : wc.cell? ⟨gb355, 6, none⟩ = some (.int .i64 a0_6) := (blk_cell BK355.out 6).trans rfl
          have hcz13_7 : wc.cell? ⟨gb355, 7, none⟩ = some (.int .i64 a0_7) := (blk_cell BK355.out 7).trans rfl
          have hcz13_8 : wc.cell? ⟨gb355, 8, none⟩ = some (.int .i64 a0_8) := (blk_cell BK355.out 8).trans rfl
          have hcz13_9 : wc.cell? ⟨gb355, 9, none⟩ = some (.int .i64 a0_9) := (blk_cell BK355.out 9).trans rfl
          have hfz13_0 := blk_frozen BK355.out 0
          have hfz13_1 := blk_frozen BK355.out 1
          have hfz13_2 := blk_frozen BK355.out 2
          have hfz13_3 := blk_frozen BK355.out 3
          have hfz13_4 := blk_frozen BK355.out 4
          have hfz13_5 := blk_frozen BK355.out 5
          have hfz13_6 := blk_frozen BK355.out 6
          have hfz13_7 := blk_frozen BK355.out 7
          have hfz13_8 := blk_frozen BK355.out 8
          have hfz13_9 := blk_frozen BK355.out 9
          go_upto_if 34 with (first | ((with_reducible refine gate_callee (f := 10) rfl ?_); refine goesL_ (some 25) rfl rfl Tryd.func10 (by kernel_rfl) rfl #[.agg #[.int .i64 a0_0, .int .i64 a0_1, .int .i64 a0_2, .int .i64 a0_3, .int .i64 a0_4, .int .i64 a0_5, .int .i64 a0_6, .int .i64 a0_7, .int .i64 a0_8, .int .i64 a0_9]] rfl (by (try simp only [List.map_toArray, List.map_cons, List.map_nil]); first | done | rfl | (simp only [List.length_drop, List.length_take]; rfl)) ?_; (with_reducible refine (msg_Put.calls kj3 a0_0 a0_1 a0_2 a0_3 a0_4 a0_5 a0_6 a0_7 a0_8 a0_9 t357 t360 _ ?sideG_ A9.out).mono ?_); (case sideG_ => exact hG.below rfl (by repeat (first | (with_reducible first | exact HB.out | apply below_alloc | apply pw_below_drewN | apply below_drew1 | refine below_set ?_ GE355.out) | exact HB.out))); rintro e w14 ⟨v358, rfl, ho0, hb⟩; refine ⟨_, rfl, ?_⟩; have n0_ := Aside0.mk (Kd.R_lower ho0 (below_size (by repeat (first | (with_reducible first | exact HB.out | apply below_alloc | apply pw_below_drewN | apply below_drew1 | refine below_set ?_ GE355.out) | exact HB.out)))); have n1_ := Aside0.mk (blk_below (g := gb355) (o := .cells #[.int .i64 a0_0, .int .i64 a0_1, .int .i64 a0_2, .int .i64 a0_3, .int .i64 a0_4, .int .i64 a0_5, .int .i64 a0_6, .int .i64 a0_7, .int .i64 a0_8, .int .i64 a0_9] 29 (0, 0)) (by (with_reducible repeat (first | refine blk_drewN ?_ _ | refine blk_drew ?_ | refine blk_alloc ?_ _)); exact BK355.out) hb); have n2_ := Aside0.mk (below_step (by repeat (first | (with_reducible first | exact HB.out | apply below_alloc | apply pw_below_drewN | apply below_drew1 | refine below_set ?_ GE355.out) | exact HB.out)) hb); clear BK355; clear HB; have HO359 := n0_; have BK355 := n1_; have HB := n2_; clear n0_ n1_ n2_; (try clear hb); (try clear hb2); (try clear hk); (try clear hi); (try clear ho0); have hcz15_0 : w14.cell? ⟨gb355, 0, none⟩ = some (.int .i64 a0_0) := (blk_cell BK355.out 0).trans rfl; have hcz15_1 : w14.cell? ⟨gb355, 1, none⟩ = some (.int .i64 a0_1) := (blk_cell BK355.out 1).trans rfl; have hcz15_2 : w14.cell? ⟨gb355, 2, none⟩ = some (.int .i64 a0_2) := (blk_cell BK355.out 2).trans rfl; have hcz15_3 : w14.cell? ⟨gb355, 3, none⟩ = some (.int .i64 a0_3) := (blk_cell BK355.out 3).trans rfl; have hcz15_4 : w14.cell? ⟨gb355, 4, none⟩ = some (.int .i64 a0_4) := (blk_cell BK355.out 4).trans rfl; have hcz15_5 : w14.cell? ⟨gb355, 5, none⟩ = some (.int .i64 a0_5) := (blk_cell BK355.out 5).trans rfl; have hcz15_6 : w14.cell? ⟨gb355, 6, none⟩ = some (.int .i64 a0_6) := (blk_cell BK355.out 6).trans rfl; have hcz15_7 : w14.cell? ⟨gb355, 7, none⟩ = some (.int .i64 a0_7) := (blk_cell BK355.out 7).trans rfl; have hcz15_8 : w14.cell? ⟨gb355, 8, none⟩ = some (.int .i64 a0_8) := (blk_cell BK355.out 8).trans rfl; have hcz15_9 : w14.cell? ⟨gb355, 9, none⟩ = some (.int .i64 a0_9) := (blk_cell BK355.out 9).trans rfl; have hfz15_0 := blk_frozen BK355.out 0; have hfz15_1 := blk_frozen BK355.out 1; have hfz15_2 := blk_frozen BK355.out 2; have hfz15_3 := blk_frozen BK355.out 3; have hfz15_4 := blk_frozen BK355.out 4; have hfz15_5 := blk_frozen BK355.out 5; have hfz15_6 := blk_frozen BK355.out 6; have hfz15_7 := blk_frozen BK355.out 7; have hfz15_8 := blk_frozen BK355.out 8; have hfz15_9 := blk_frozen BK355.out 9) | ((with_reducible refine gate_callee (f := 13) rfl ?_); refine goesL_ (some 31) rfl rfl Tryd.func13 (by kernel_rfl) rfl #[.agg #[.int .i64 a0_0, .int .i64 a0_1, .int .i64 a0_2, .int .i64 a0_3, .int .i64 a0_4, .int .i64 a0_5, .int .i64 a0_6, .int .i64 a0_7, .int .i64 a0_8, .int .i64 a0_9]] rfl (by (try simp only [List.map_toArray, List.map_cons, List.map_nil]); first | done | rfl | (simp only [List.length_drop, List.length_take]; rfl)) ?_; (with_reducible refine (msg_May.calls a0_0 a0_1 a0_2 a0_3 a0_4 a0_5 a0_6 a0_7 a0_8 a0_9 t361 _ ?sideG_ A10.out).mono ?_); (case sideG_ => exact hG.below rfl (by repeat (first | (with_reducible first | exact HB.out | apply below_alloc | apply pw_below_drewN | apply below_drew1 | refine below_set ?_ GE355.out) | exact HB.out))); rintro e w16 ⟨rfl, hb⟩; refine ⟨_, rfl, ?_⟩; have n0_ := Aside0.mk (Kd.R_below (by (with_reducible repeat (first | apply Kd.R_alloc | apply Kd.R_drewN | apply Kd.R_drew)); exact HO359.out) hb); have n1_ := Aside0.mk (blk_below (g := gb355) (o := .cells #[.int .i64 a0_0, .int .i64 a0_1, .int .i64 a0_2, .int .i64 a0_3, .int .i64 a0_4, .int .i64 a0_5, .int .i64 a0_6, .int .i64 a0_7, .int .i64 a0_8, .int .i64 a0_9] 29 (0, 0)) (by (with_reducible repeat (first | refine blk_drewN ?_ _ | refine blk_drew ?_ | refine blk_alloc ?_ _)); exact BK355.out) hb); have n2_ := Aside0.mk (below_step (by repeat (first | (with_reducible first | exact HB.out | apply below_alloc | apply pw_below_drewN | apply below_drew1 | refine below_set ?_ GE355.out) | exact HB.out)) hb); clear HO359; clear BK355; clear HB; have HO359 := n0_; have BK355 := n1_; have HB := n2_; clear n0_ n1_ n2_; (try clear hb); (try clear hb2); (try clear hk); (try clear hi)))
          (try simp only [Act.put, List.setIfInBounds_toArray, List.set_cons_zero, List.set_cons_succ])
          go_cut [] (fun wc => ∃ (kq : Nat), Aside0 (wayfinderlaw05_MsgBack.j1 kq l1 = some r) ∧ Aside0 (kq ≤ kj3) ∧ Aside0 (wc.heap[gb355]? = some (.cells #[.int .i64 a0_0, .int .i64 a0_1, .int .i64 a0_2, .int .i64 a0_3, .int .i64 a0_4, .int .i64 a0_5, .int .i64 a0_6, .int .i64 a0_7, .int .i64 a0_8, .int .i64 a0_9] 29 (0, 0))) ∧ Aside0 (Below w.heap.size w wc))
          case first =>
            have H := HC12.out
            clear HC12
            by_cases c17 : t360 = 0
            · rw [if_pos c17] at H
              have c17b0 : (t360 == 0) = true := beq_iff_eq.mpr c17
              have c17b1 : (t360 != 0) = false := bne_eq_false_iff_eq.mpr c17
              clear c17
              (first | rw [c17b0] | (simp only [i64_w, i32_w]; rw [c17b0]) | skip)
              replace H := Option.bind_eq_some_iff.mp H
              obtain ⟨⟨t362, t363, t364, t365, t366, t367, t368, t369, t370, t371, t372⟩, A180, H⟩ := H
              replace H : (if t372 = 0 then (if (!(t362 == a0_0) || (!(t363 == a0_1) || (!(t364 == a0_2) || (!(t365 == a0_3) || (((!(t366 == a0_4) || (!(t367 == a0_5))) || (!(t368 == a0_6) || (!(t369 == a0_7) || ((!(t370 == a0_8) || (!(t371 == a0_9)))))))))))) = true then (none) else (wayfinderlaw05_MsgBack.j1 kj3 l1)) else (none)) = some r := H
              have A18 := Aside0.mk A180
              clear A180
              by_cases c19 : t372 = 0
              · rw [if_pos c19] at H
                have c19b0 : (t372 == 0) = true := beq_iff_eq.mpr c19
                have c19b1 : (t372 != 0) = false := bne_eq_false_iff_eq.mpr c19
                clear c19
                by_cases c20 : (!(t362 == a0_0) || (!(t363 == a0_1) || (!(t364 == a0_2) || (!(t365 == a0_3) || (((!(t366 == a0_4) || (!(t367 == a0_5))) || (!(t368 == a0_6) || (!(t369 == a0_7) || ((!(t370 == a0_8) || (!(t371 == a0_9)))))))))))) = true
                · rw [if_pos c20] at H
                  exact absurd H (by simp)
                · rw [if_neg c20] at H
                  have c20b0 : (!(t362 == a0_0) || (!(t363 == a0_1) || (!(t364 == a0_2) || (!(t365 == a0_3) || (((!(t366 == a0_4) || (!(t367 == a0_5))) || (!(t368 == a0_6) || (!(t369 == a0_7) || ((!(t370 == a0_8) || (!(t371 == a0_9)))))))))))) = false := by simpa using c20
                  clear c20
                  have H' := Aside0.mk H
                  clear H
                  obtain ⟨Ao21, co21, eo21⟩ := Kd.R_slice HO359.out
                  subst eo21
                  go_wp2_with (first | ((with_reducible refine gate_callee (f := 14) rfl ?_); refine goesL_ (some 37) rfl rfl Tryd.func14 (by kernel_rfl) rfl #[.slice Ao21 t357.length co21] rfl (by (try simp only [List.map_toArray, List.map_cons, List.map_nil]); first | done | rfl | (simp only [List.length_drop, List.length_take]; rfl)) ?_; (with_reducible refine (msg_Get.calls kj3 _ _ t357 t362 t363 t364 t365 t366 t367 t368 t369 t370 t371 t372 _ ?side1 ?side2 ?sideG_ A18.out).mono ?_); (case sideG_ => exact hG.below rfl (by repeat (first | (with_reducible first | exact HB.out | apply below_alloc | apply pw_below_drewN | apply below_drew1 | refine below_set ?_ GE355.out) | exact HB.out))); (case side1 => repeat (first | exact (Kd.R_reads' HO359.out).2.2 | (with_reducible refine Kd.C_alloc ?_ _) | (with_reducible refine Kd.C_drewN ?_ _) | (with_reducible refine Kd.C_drew ?_))); (case side2 => exact (Kd.R_reads' HO359.out).2.1); rintro e w22 ⟨rfl, hb⟩; refine ⟨_, rfl, ?_⟩; have n0_ := Aside0.mk (Kd.R_below (by (with_reducible repeat (first | apply Kd.R_alloc | apply Kd.R_drewN | apply Kd.R_drew)); exact HO359.out) hb); have n1_ := Aside0.mk (blk_below (g := gb355) (o := .cells #[.int .i64 a0_0, .int .i64 a0_1, .int .i64 a0_2, .int .i64 a0_3, .int .i64 a0_4, .int .i64 a0_5, .int .i64 a0_6, .int .i64 a0_7, .int .i64 a0_8, .int .i64 a0_9] 29 (0, 0)) (by (with_reducible repeat (first | refine blk_drewN ?_ _ | refine blk_drew ?_ | refine blk_alloc ?_ _)); exact BK355.out) hb); have n2_ := Aside0.mk (below_step (by repeat (first | (with_reducible first | exact HB.out | apply below_alloc | apply pw_below_drewN | apply below_drew1 | refine below_set ?_ GE355.out) | exact HB.out)) hb); clear HO359; clear BK355; clear HB; have HO359 := n0_; have BK355 := n1_; have HB := n2_; clear n0_ n1_ n2_; (try clear hb); (try clear hb2); (try clear hk); (try clear hi)) | ((with_reducible refine gate_dst (N := 8) rfl ?_); (try (refine gate_guard (by rfl) ?_; dsimp only)); refine box_event ?hg (N := 8) ?hd (cs := #[.int .i64 0, .int .i64 0, .int .i64 0, .int .i64 0, .int .i64 0, .int .i64 0, .int .i64 0, .int .i64 0, .int .i64 0, .int .i64 0]) (t := 29) ?hr ?_; (case hd => rfl); (case hg => rfl); (case hr => first | (go_simp; done) | (go_simp; rfl)); intro gb373 hg w23 hbox hb; have n0_ := Aside0.mk (Kd.R_below (by (with_reducible repeat (first | apply Kd.R_alloc | apply Kd.R_drewN | apply Kd.R_drew)); exact HO359.out) hb); have n1_ := Aside0.mk (blk_below (g := gb355) (o := .cells #[.int .i64 a0_0, .int .i64 a0_1, .int .i64 a0_2, .int .i64 a0_3, .int .i64 a0_4, .int .i64 a0_5, .int .i64 a0_6, .int .i64 a0_7, .int .i64 a0_8, .int .i64 a0_9] 29 (0, 0)) (by (with_reducible repeat (first | refine blk_drewN ?_ _ | refine blk_drew ?_ | refine blk_alloc ?_ _)); exact BK355.out) hb); have n2_ := Aside0.mk (below_step (by repeat (first | (with_reducible first | exact HB.out | apply below_alloc | apply pw_below_drewN | apply below_drew1 | refine below_set ?_ GE355.out) | exact HB.out)) hb); have n3_ := Aside0.mk (hbox); have n4_ := Aside0.mk ((by rw [hg]; exact (below_size (by repeat (first | (with_reducible first | exact HB.out | apply below_alloc | apply pw_below_drewN | apply below_drew1 | refine below_set ?_ GE355.out) | exact HB.out))) : w.heap.size ≤ gb373)); have n5_ := Aside0.mk ((by rw [hg]; exact (below_size (by repeat (first | (with_reducible first | exact HB.out | apply below_alloc | apply pw_below_drewN | apply below_drew1 | refine below_set ?_ GE355.out) | exact HB.out))) : w.heap.size ≤ gb373)); have n6_ := Aside0.mk ((by rw [hg]; exact Nat.ne_of_lt (blk_lt (g := gb355) (o := .cells #[.int .i64 a0_0, .int .i64 a0_1, .int .i64 a0_2, .int .i64 a0_3, .int .i64 a0_4, .int .i64 a0_5, .int .i64 a0_6, .int .i64 a0_7, .int .i64 a0_8, .int .i64 a0_9] 29 (0, 0)) (by (with_reducible repeat (first | refine blk_drewN ?_ _ | refine blk_drew ?_ | refine blk_alloc ?_ _)); exact BK355.out)) : gb355 ≠ gb373)); have n7_ := Aside0.mk ((by rw [hg]; exact Nat.ne_of_gt (blk_lt (g := gb355) (o := .cells #[.int .i64 a0_0, .int .i64 a0_1, .int .i64 a0_2, .int .i64 a0_3, .int .i64 a0_4, .int .i64 a0_5, .int .i64 a0_6, .int .i64 a0_7, .int .i64 a0_8, .int .i64 a0_9] 29 (0, 0)) (by (with_reducible repeat (first | refine blk_drewN ?_ _ | refine blk_drew ?_ | refine blk_alloc ?_ _)); exact BK355.out)) : gb373 ≠ gb355)); clear HO359; clear BK355; clear HB; have HO359 := n0_; have BK355 := n1_; have HB := n2_; have BK373 := n3_; have GW373 := n4_; have GE373 := n5_; have NB355_373 := n6_; have NB373_355 := n7_; clear n0_ n1_ n2_ n3_ n4_ n5_ n6_ n7_; clear hb hbox hg; have hnb24 := NB373_355.out; have hnc24 := NB355_373.out; have hcz25_0 : w23.cell? ⟨gb373, 0, none⟩ = some (.int .i64 0) := (blk_cell BK373.out 0).trans rfl; have hcz25_1 : w23.cell? ⟨gb373, 1, none⟩ = some (.int .i64 0) := (blk_cell BK373.out 1).trans rfl; have hcz25_2 : w23.cell? ⟨gb373, 2, none⟩ = some (.int .i64 0) := (blk_cell BK373.out 2).trans rfl; have hcz25_3 : w23.cell? ⟨gb373, 3, none⟩ = some (.int .i64 0) := (blk_cell BK373.out 3).trans rfl; have hcz25_4 : w23.cell? ⟨gb373, 4, none⟩ = some (.int .i64 0) := (blk_cell BK373.out 4).trans rfl; have hcz25_5 : w23.cell? ⟨gb373, 5, none⟩ = some (.int .i64 0) := (blk_cell BK373.out 5).trans rfl; have hcz25_6 : w23.cell? ⟨gb373, 6, none⟩ = some (.int .i64 0) := (blk_cell BK373.out 6).trans rfl; have hcz25_7 : w23.cell? ⟨gb373, 7, none⟩ = some (.int .i64 0) := (blk_cell BK373.out 7).trans rfl; have hcz25_8 : w23.cell? ⟨gb373, 8, none⟩ = some (.int .i64 0) := (blk_cell BK373.out 8).trans rfl; have hcz25_9 : w23.cell? ⟨gb373, 9, none⟩ = some (.int .i64 0) := (blk_cell BK373.out 9).trans rfl; have hfz25_0 := blk_frozen BK373.out 0; have hfz25_1 := blk_frozen BK373.out 1; have hfz25_2 := blk_frozen BK373.out 2; have hfz25_3 := blk_frozen BK373.out 3; have hfz25_4 := blk_frozen BK373.out 4; have hfz25_5 := blk_frozen BK373.out 5; have hfz25_6 := blk_frozen BK373.out 6; have hfz25_7 := blk_frozen BK373.out 7; have hfz25_8 := blk_frozen BK373.out 8; have hfz25_9 := blk_frozen BK373.out 9; have hcz26_0 : w23.cell? ⟨gb355, 0, none⟩ = some (.int .i64 a0_0) := (blk_cell BK355.out 0).trans rfl; have hcz26_1 : w23.cell? ⟨gb355, 1, none⟩ = some (.int .i64 a0_1) := (blk_cell BK355.out 1).trans rfl; have hcz26_2 : w23.cell? ⟨gb355, 2, none⟩ = some (.int .i64 a0_2) := (blk_cell BK355.out 2).trans rfl; have hcz26_3 : w23.cell? ⟨gb355, 3, none⟩ = some (.int .i64 a0_3) := (blk_cell BK355.out 3).trans rfl; have hcz26_4 : w23.cell? ⟨gb355, 4, none⟩ = some (.int .i64 a0_4) := (blk_cell BK355.out 4).trans rfl; have hcz26_5 : w23.cell? ⟨gb355, 5, none⟩ = some (.int .i64 a0_5) := (blk_cell BK355.out 5).trans rfl; have hcz26_6 : w23.cell? ⟨gb355, 6, none⟩ = some (.int .i64 a0_6) := (blk_cell BK355.out 6).trans rfl; have hcz26_7 : w23.cell? ⟨gb355, 7, none⟩ = some (.int .i64 a0_7) := (blk_cell BK355.out 7).trans rfl; have hcz26_8 : w23.cell? ⟨gb355, 8, none⟩ = some (.int .i64 a0_8) := (blk_cell BK355.out 8).trans rfl; have hcz26_9 : w23.cell? ⟨gb355, 9, none⟩ = some (.int .i64 a0_9) := (blk_cell BK355.out 9).trans rfl; have hfz26_0 := blk_frozen BK355.out 0; have hfz26_1 := blk_frozen BK355.out 1; have hfz26_2 := blk_frozen BK355.out 2; have hfz26_3 := blk_frozen BK355.out 3; have hfz26_4 := blk_frozen BK355.out 4; have hfz26_5 := blk_frozen BK355.out 5; have hfz26_6 := blk_frozen BK355.out 6; have hfz26_7 := blk_frozen BK355.out 7; have hfz26_8 := blk_frozen BK355.out 8; have hfz26_9 := blk_frozen BK355.out 9))
                  go_meet
                  case rel => exact ⟨_, H', ⟨by have := HJ3.out; first | omega | exact Nat.le_refl _⟩, ⟨by (with_reducible repeat (first | refine blk_drewN ?_ _ | refine blk_drew ?_ | refine blk_alloc ?_ _)); refine blk_far ?_ NB355_373.out _; (with_reducible repeat (first | refine blk_drewN ?_ _ | refine blk_drew ?_ | refine blk_alloc ?_ _)); refine blk_far ?_ NB355_373.out _; (with_reducible repeat (first | refine blk_drewN ?_ _ | refine blk_drew ?_ | refine blk_alloc ?_ _)); refine blk_far ?_ NB355_373.out _; (with_reducible repeat (first | refine blk_drewN ?_ _ | refine blk_drew ?_ | refine blk_alloc ?_ _)); refine blk_far ?_ NB355_373.out _; (with_reducible repeat (first | refine blk_drewN ?_ _ | refine blk_drew ?_ | refine blk_alloc ?_ _)); refine blk_far ?_ NB355_373.out _; (with_reducible repeat (first | refine blk_drewN ?_ _ | refine blk_drew ?_ | refine blk_alloc ?_ _)); refine blk_far ?_ NB355_373.out _; (with_reducible repeat (first | refine blk_drewN ?_ _ | refine blk_drew ?_ | refine blk_alloc ?_ _)); refine blk_far ?_ NB355_373.out _; (with_reducible repeat (first | refine blk_drewN ?_ _ | refine blk_drew ?_ | refine blk_alloc ?_ _)); refine blk_far ?_ NB355_373.out _; (with_reducible repeat (first | refine blk_drewN ?_ _ | refine blk_drew ?_ | refine blk_alloc ?_ _)); refine blk_far ?_ NB355_373.out _; (with_reducible repeat (first | refine blk_drewN ?_ _ | refine blk_drew ?_ | refine blk_alloc ?_ _)); refine blk_far ?_ NB355_373.out _; (with_reducible repeat (first | refine blk_drewN ?_ _ | refine blk_drew ?_ | refine blk_alloc ?_ _)); exact BK355.out⟩, ⟨by repeat (first | (with_reducible first | exact HB.out | apply below_alloc | apply pw_below_drewN | apply below_drew1 | refine below_set ?_ GE355.out | refine below_set ?_ GE373.out) | exact HB.out)⟩⟩
              · rw [if_neg c19] at H
                exact absurd H (by simp)
            · rw [if_neg c17] at H
              have c17b0 : (t360 == 0) = false := beq_eq_false_iff_ne.mpr c17
              have c17b1 : (t360 != 0) = true := bne_iff_ne.mpr c17
              (first | rw [c17b0] | (simp only [i64_w, i32_w]; rw [c17b0]) | skip)
              have H' := Aside0.mk H
              clear H
              go_wp2
              go_meet
              case rel => exact ⟨_, H', ⟨by have := HJ3.out; first | omega | exact Nat.le_refl _⟩, ⟨by (with_reducible repeat (first | refine blk_drewN ?_ _ | refine blk_drew ?_ | refine blk_alloc ?_ _)); exact BK355.out⟩, ⟨by repeat (first | (with_reducible first | exact HB.out | apply below_alloc | apply pw_below_drewN | apply below_drew1 | refine below_set ?_ GE355.out) | exact HB.out)⟩⟩
          case rest =>
            clear HC12
            try clear c1
            try clear c2
            try clear p2
            try clear c7
            try clear c8
            try clear c9
            try clear c10
            try clear c11
            try clear c11b0
            try clear c11b1
            try clear c11b2
            try clear c13
            try clear c14
            try clear c17
            try clear c17b0
            try clear c17b1
            try clear c19
            try clear c19b0
            try clear c19b1
            try clear c20
            try clear c20b0
            try clear c24
            try clear hcz13_0
            try clear hcz13_1
            try clear hcz13_2
            try clear hcz13_3
            try clear hcz13_4
            try clear hcz13_5
            try clear hcz13_6
            try clear hcz13_7
            try clear hcz13_8
            try clear hcz13_9
            try clear hcz15_0
            try clear hcz15_1
            try clear hcz15_2
            try clear hcz15_3
            try clear hcz15_4
            try clear hcz15_5
            try clear hcz15_6
            try clear hcz15_7
            try clear hcz15_8
            try clear hcz15_9
            try clear hcz25_0
            try clear hcz25_1
            try clear hcz25_2
            try clear hcz25_3
            try clear hcz25_4
            try clear hcz25_5
            try clear hcz25_6
            try clear hcz25_7
            try clear hcz25_8
            try clear hcz25_9
            try clear hcz26_0
            try clear hcz26_1
            try clear hcz26_2
            try clear hcz26_3
            try clear hcz26_4
            try clear hcz26_5
            try clear hcz26_6
            try clear hcz26_7
            try clear hcz26_8
            try clear hcz26_9
            try clear hfz13_0
            try clear hfz13_1
            try clear hfz13_2
            try clear hfz13_3
            try clear hfz13_4
            try clear hfz13_5
            try clear hfz13_6
            try clear hfz13_7
            try clear hfz13_8
            try clear hfz13_9
            try clear hfz15_0
            try clear hfz15_1
            try clear hfz15_2
            try clear hfz15_3
            try clear hfz15_4
            try clear hfz15_5
            try clear hfz15_6
            try clear hfz15_7
            try clear hfz15_8
            try clear hfz15_9
            try clear hfz25_0
            try clear hfz25_1
            try clear hfz25_2
            try clear hfz25_3
            try clear hfz25_4
            try clear hfz25_5
            try clear hfz25_6
            try clear hfz25_7
            try clear hfz25_8
            try clear hfz25_9
            try clear hfz26_0
            try clear hfz26_1
            try clear hfz26_2
            try clear hfz26_3
            try clear hfz26_4
            try clear hfz26_5
            try clear hfz26_6
            try clear hfz26_7
            try clear hfz26_8
            try clear hfz26_9
            try clear p2
            obtain ⟨kq, HA, HJ11, BK355, HB⟩ := hcut
            cases kq with
            | zero => exact absurd HA.out (by simp [wayfinderlaw05_MsgBack.j1])
            | succ kj11 =>
              have H := HA.out
              clear HA
              simp only [wayfinderlaw05_MsgBack.j1] at H
              replace H := Option.bind_eq_some_iff.mp H
              obtain ⟨⟨t374, t375, t376, t377, t378, t379, t380, t381, t382, t383, t384⟩, A270, H⟩ := H
              replace H : (if t384 = 0 then ((msg_Put.f kj11 t374 t375 t376 t377 t378 t379 t380 t381 t382 t383).bind fun bt386 => (if bt386.2 = 0 then (some ((strOfNums bt386.1).toList == (strOfNums l1).toList)) else (none))) else (some (t374 == 0 && (t375 == 0 && (t376 == 0 && (t377 == 0 && (((t378 == 0 && (t379 == 0)) && (t380 == 0 && (t381 == 0 && ((t382 == 0 && (t383 == 0))))))))))))) = some r := H
              have A27 := Aside0.mk A270
              clear A270
              by_cases c28 : t384 = 0
              · rw [if_pos c28] at H
                have c28b0 : (t384 == 0) = true := beq_iff_eq.mpr c28
                have c28b1 : (t384 != 0) = false := bne_eq_false_iff_eq.mpr c28
                clear c28
                replace H := Option.bind_eq_some_iff.mp H
                obtain ⟨⟨t386, t389⟩, A290, H⟩ := H
                replace H : (if t389 = 0 then (some ((strOfNums t386).toList == (strOfNums l1).toList)) else (none)) = some r := H
                have A29 := Aside0.mk A290
                clear A290
                by_cases c30 : t389 = 0
                · rw [if_pos c30] at H
                  have c30b0 : (t389 == 0) = true := beq_iff_eq.mpr c30
                  have c30b1 : (t389 != 0) = false := bne_eq_false_iff_eq.mpr c30
                  clear c30
                  obtain rfl := Option.some.inj H
                  go_wp2_with (first | ((with_reducible refine gate_callee (f := 14) rfl ?_); refine goesL_ (some 49) rfl rfl Tryd.func14 (by kernel_rfl) rfl #[.slice A1 l1.length c1] rfl (by (try simp only [List.map_toArray, List.map_cons, List.map_nil]); first | done | rfl | (simp only [List.length_drop, List.length_take]; rfl)) ?_; (with_reducible refine (msg_Get.calls kj11 _ _ l1 t374 t375 t376 t377 t378 t379 t380 t381 t382 t383 t384 _ ?side1 ?side2 ?sideG_ A27.out).mono ?_); (case sideG_ => exact hG.below rfl (by repeat (first | (with_reducible first | exact HB.out | apply below_alloc | apply pw_below_drewN | apply below_drew1 | refine below_set ?_ GE355.out) | exact HB.out))); (case side1 => repeat (first | exact (Kd.C_below HR1.out HB.out) | (with_reducible refine Kd.C_alloc ?_ _) | (with_reducible refine Kd.C_drewN ?_ _) | (with_reducible refine Kd.C_drew ?_))); (case side2 => exact HC1.out); rintro e w31 ⟨rfl, hb⟩; refine ⟨_, rfl, ?_⟩; have n0_ := Aside0.mk (blk_below (g := gb355) (o := .cells #[.int .i64 a0_0, .int .i64 a0_1, .int .i64 a0_2, .int .i64 a0_3, .int .i64 a0_4, .int .i64 a0_5, .int .i64 a0_6, .int .i64 a0_7, .int .i64 a0_8, .int .i64 a0_9] 29 (0, 0)) (by (with_reducible repeat (first | refine blk_drewN ?_ _ | refine blk_drew ?_ | refine blk_alloc ?_ _)); exact BK355.out) hb); have n1_ := Aside0.mk (below_step (by repeat (first | (with_reducible first | exact HB.out | apply below_alloc | apply pw_below_drewN | apply below_drew1 | refine below_set ?_ GE355.out) | exact HB.out)) hb); clear BK355; clear HB; have BK355 := n0_; have HB := n1_; clear n0_ n1_; (try clear hb); (try clear hb2); (try clear hk); (try clear hi)) | ((with_reducible refine gate_dst (N := 10) rfl ?_); (try (refine gate_guard (by rfl) ?_; dsimp only)); refine box_event ?hg (N := 10) ?hd (cs := #[.int .i64 0, .int .i64 0, .int .i64 0, .int .i64 0, .int .i64 0, .int .i64 0, .int .i64 0, .int .i64 0, .int .i64 0, .int .i64 0]) (t := 29) ?hr ?_; (case hd => rfl); (case hg => rfl); (case hr => first | (go_simp; done) | (go_simp; rfl)); intro gb385 hg w32 hbox hb; have n0_ := Aside0.mk (blk_below (g := gb355) (o := .cells #[.int .i64 a0_0, .int .i64 a0_1, .int .i64 a0_2, .int .i64 a0_3, .int .i64 a0_4, .int .i64 a0_5, .int .i64 a0_6, .int .i64 a0_7, .int .i64 a0_8, .int .i64 a0_9] 29 (0, 0)) (by (with_reducible repeat (first | refine blk_drewN ?_ _ | refine blk_drew ?_ | refine blk_alloc ?_ _)); exact BK355.out) hb); have n1_ := Aside0.mk (below_step (by repeat (first | (with_reducible first | exact HB.out | apply below_alloc | apply pw_below_drewN | apply below_drew1 | refine below_set ?_ GE355.out) | exact HB.out)) hb); have n2_ := Aside0.mk (hbox); have n3_ := Aside0.mk ((by rw [hg]; exact (below_size (by repeat (first | (with_reducible first | exact HB.out | apply below_alloc | apply pw_below_drewN | apply below_drew1 | refine below_set ?_ GE355.out) | exact HB.out))) : w.heap.size ≤ gb385)); have n4_ := Aside0.mk ((by rw [hg]; exact (below_size (by repeat (first | (with_reducible first | exact HB.out | apply below_alloc | apply pw_below_drewN | apply below_drew1 | refine below_set ?_ GE355.out) | exact HB.out))) : w.heap.size ≤ gb385)); have n5_ := Aside0.mk ((by rw [hg]; exact Nat.ne_of_lt (blk_lt (g := gb355) (o := .cells #[.int .i64 a0_0, .int .i64 a0_1, .int .i64 a0_2, .int .i64 a0_3, .int .i64 a0_4, .int .i64 a0_5, .int .i64 a0_6, .int .i64 a0_7, .int .i64 a0_8, .int .i64 a0_9] 29 (0, 0)) (by (with_reducible repeat (first | refine blk_drewN ?_ _ | refine blk_drew ?_ | refine blk_alloc ?_ _)); exact BK355.out)) : gb355 ≠ gb385)); have n6_ := Aside0.mk ((by rw [hg]; exact Nat.ne_of_gt (blk_lt (g := gb355) (o := .cells #[.int .i64 a0_0, .int .i64 a0_1, .int .i64 a0_2, .int .i64 a0_3, .int .i64 a0_4, .int .i64 a0_5, .int .i64 a0_6, .int .i64 a0_7, .int .i64 a0_8, .int .i64 a0_9] 29 (0, 0)) (by (with_reducible repeat (first | refine blk_drewN ?_ _ | refine blk_drew ?_ | refine blk_alloc ?_ _)); exact BK355.out)) : gb385 ≠ gb355)); clear BK355; clear HB; have BK355 := n0_; have HB := n1_; have BK385 := n2_; have GW385 := n3_; have GE385 := n4_; have NB355_385 := n5_; have NB385_355 := n6_; clear n0_ n1_ n2_ n3_ n4_ n5_ n6_; clear hb hbox hg; have hnb33 := NB385_355.out; have hnc33 := NB355_385.out; have hcz34_0 : w32.cell? ⟨gb385, 0, none⟩ = some (.int .i64 0) := (blk_cell BK385.out 0).trans rfl; have hcz34_1 : w32.cell? ⟨gb385, 1, none⟩ = some (.int .i64 0) := (blk_cell BK385.out 1).trans rfl; have hcz34_2 : w32.cell? ⟨gb385, 2, none⟩ = some (.int .i64 0) := (blk_cell BK385.out 2).trans rfl; have hcz34_3 : w32.cell? ⟨gb385, 3, none⟩ = some (.int .i64 0) := (blk_cell BK385.out 3).trans rfl; have hcz34_4 : w32.cell? ⟨gb385, 4, none⟩ = some (.int .i64 0) := (blk_cell BK385.out 4).trans rfl; have hcz34_5 : w32.cell? ⟨gb385, 5, none⟩ = some (.int .i64 0) := (blk_cell BK385.out 5).trans rfl; have hcz34_6 : w32.cell? ⟨gb385, 6, none⟩ = some (.int .i64 0) := (blk_cell BK385.out 6).trans rfl; have hcz34_7 : w32.cell? ⟨gb385, 7, none⟩ = some (.int .i64 0) := (blk_cell BK385.out 7).trans rfl; have hcz34_8 : w32.cell? ⟨gb385, 8, none⟩ = some (.int .i64 0) := (blk_cell BK385.out 8).trans rfl; have hcz34_9 : w32.cell? ⟨gb385, 9, none⟩ = some (.int .i64 0) := (blk_cell BK385.out 9).trans rfl; have hfz34_0 := blk_frozen BK385.out 0; have hfz34_1 := blk_frozen BK385.out 1; have hfz34_2 := blk_frozen BK385.out 2; have hfz34_3 := blk_frozen BK385.out 3; have hfz34_4 := blk_frozen BK385.out 4; have hfz34_5 := blk_frozen BK385.out 5; have hfz34_6 := blk_frozen BK385.out 6; have hfz34_7 := blk_frozen BK385.out 7; have hfz34_8 := blk_frozen BK385.out 8; have hfz34_9 := blk_frozen BK385.out 9) | ((with_reducible refine gate_callee (f := 10) rfl ?_); refine goesL_ (some 59) rfl rfl Tryd.func10 (by kernel_rfl) rfl #[.agg #[.int .i64 t374, .int .i64 t375, .int .i64 t376, .int .i64 t377, .int .i64 t378, .int .i64 t379, .int .i64 t380, .int .i64 t381, .int .i64 t382, .int .i64 t383]] rfl (by (try simp only [List.map_toArray, List.map_cons, List.map_nil]); first | done | rfl | (simp only [List.length_drop, List.length_take]; rfl)) ?_; (with_reducible refine (msg_Put.calls kj11 t374 t375 t376 t377 t378 t379 t380 t381 t382 t383 t386 t389 _ ?sideG_ A29.out).mono ?_); (case sideG_ => exact hG.below rfl (by repeat (first | (with_reducible first | exact HB.out | apply below_alloc | apply pw_below_drewN | apply below_drew1 | refine below_set ?_ GE355.out | refine below_set ?_ GE385.out) | exact HB.out))); rintro e w35 ⟨v387, rfl, ho0, hb⟩; refine ⟨_, rfl, ?_⟩; have n0_ := Aside0.mk (Kd.R_lower ho0 (below_size (by repeat (first | (with_reducible first | exact HB.out | apply below_alloc | apply pw_below_drewN | apply below_drew1 | refine below_set ?_ GE355.out | refine below_set ?_ GE385.out) | exact HB.out)))); have n1_ := Aside0.mk (blk_below (g := gb355) (o := .cells #[.int .i64 a0_0, .int .i64 a0_1, .int .i64 a0_2, .int .i64 a0_3, .int .i64 a0_4, .int .i64 a0_5, .int .i64 a0_6, .int .i64 a0_7, .int .i64 a0_8, .int .i64 a0_9] 29 (0, 0)) (by (with_reducible repeat (first | refine blk_drewN ?_ _ | refine blk_drew ?_ | refine blk_alloc ?_ _)); refine blk_far ?_ NB355_385.out _; (with_reducible repeat (first | refine blk_drewN ?_ _ | refine blk_drew ?_ | refine blk_alloc ?_ _)); refine blk_far ?_ NB355_385.out _; (with_reducible repeat (first | refine blk_drewN ?_ _ | refine blk_drew ?_ | refine blk_alloc ?_ _)); refine blk_far ?_ NB355_385.out _; (with_reducible repeat (first | refine blk_drewN ?_ _ | refine blk_drew ?_ | refine blk_alloc ?_ _)); refine blk_far ?_ NB355_385.out _; (with_reducible repeat (first | refine blk_drewN ?_ _ | refine blk_drew ?_ | refine blk_alloc ?_ _)); refine blk_far ?_ NB355_385.out _; (with_reducible repeat (first | refine blk_drewN ?_ _ | refine blk_drew ?_ | refine blk_alloc ?_ _)); refine blk_far ?_ NB355_385.out _; (with_reducible repeat (first | refine blk_drewN ?_ _ | refine blk_drew ?_ | refine blk_alloc ?_ _)); refine blk_far ?_ NB355_385.out _; (with_reducible repeat (first | refine blk_drewN ?_ _ | refine blk_drew ?_ | refine blk_alloc ?_ _)); refine blk_far ?_ NB355_385.out _; (with_reducible repeat (first | refine blk_drewN ?_ _ | refine blk_drew ?_ | refine blk_alloc ?_ _)); refine blk_far ?_ NB355_385.out _; (with_reducible repeat (first | refine blk_drewN ?_ _ | refine blk_drew ?_ | refine blk_alloc ?_ _)); refine blk_far ?_ NB355_385.out _; (with_reducible repeat (first | refine blk_drewN ?_ _ | refine blk_drew ?_ | refine blk_alloc ?_ _)); exact BK355.out) hb); have n2_ := Aside0.mk (blk_below (g := gb385) (o := .cells #[.int .i64 t374, .int .i64 t375, .int .i64 t376, .int .i64 t377, .int .i64 t378, .int .i64 t379, .int .i64 t380, .int .i64 t381, .int .i64 t382, .int .i64 t383] 29 (0, 0)) (by (with_reducible repeat (first | refine blk_drewN ?_ _ | refine blk_drew ?_ | refine blk_alloc ?_ _)); refine blk_put (cs := #[.int .i64 t374, .int .i64 t375, .int .i64 t376, .int .i64 t377, .int .i64 t378, .int .i64 t379, .int .i64 t380, .int .i64 t381, .int .i64 t382, .int .i64 0]) ?_ 9 _ rfl; (with_reducible repeat (first | refine blk_drewN ?_ _ | refine blk_drew ?_ | refine blk_alloc ?_ _)); refine blk_put (cs := #[.int .i64 t374, .int .i64 t375, .int .i64 t376, .int .i64 t377, .int .i64 t378, .int .i64 t379, .int .i64 t380, .int .i64 t381, .int .i64 0, .int .i64 0]) ?_ 8 _ rfl; (with_reducible repeat (first | refine blk_drewN ?_ _ | refine blk_drew ?_ | refine blk_alloc ?_ _)); refine blk_put (cs := #[.int .i64 t374, .int .i64 t375, .int .i64 t376, .int .i64 t377, .int .i64 t378, .int .i64 t379, .int .i64 t380, .int .i64 0, .int .i64 0, .int .i64 0]) ?_ 7 _ rfl; (with_reducible repeat (first | refine blk_drewN ?_ _ | refine blk_drew ?_ | refine blk_alloc ?_ _)); refine blk_put (cs := #[.int .i64 t374, .int .i64 t375, .int .i64 t376, .int .i64 t377, .int .i64 t378, .int .i64 t379, .int .i64 0, .int .i64 0, .int .i64 0, .int .i64 0]) ?_ 6 _ rfl; (with_reducible repeat (first | refine blk_drewN ?_ _ | refine blk_drew ?_ | refine blk_alloc ?_ _)); refine blk_put (cs := #[.int .i64 t374, .int .i64 t375, .int .i64 t376, .int .i64 t377, .int .i64 t378, .int .i64 0, .int .i64 0, .int .i64 0, .int .i64 0, .int .i64 0]) ?_ 5 _ rfl; (with_reducible repeat (first | refine blk_drewN ?_ _ | refine blk_drew ?_ | refine blk_alloc ?_ _)); refine blk_put (cs := #[.int .i64 t374, .int .i64 t375, .int .i64 t376, .int .i64 t377, .int .i64 0, .int .i64 0, .int .i64 0, .int .i64 0, .int .i64 0, .int .i64 0]) ?_ 4 _ rfl; (with_reducible repeat (first | refine blk_drewN ?_ _ | refine blk_drew ?_ | refine blk_alloc ?_ _)); refine blk_put (cs := #[.int .i64 t374, .int .i64 t375, .int .i64 t376, .int .i64 0, .int .i64 0, .int .i64 0, .int .i64 0, .int .i64 0, .int .i64 0, .int .i64 0]) ?_ 3 _ rfl; (with_reducible repeat (first | refine blk_drewN ?_ _ | refine blk_drew ?_ | refine blk_alloc ?_ _)); refine blk_put (cs := #[.int .i64 t374, .int .i64 t375, .int .i64 0, .int .i64 0, .int .i64 0, .int .i64 0, .int .i64 0, .int .i64 0, .int .i64 0, .int .i64 0]) ?_ 2 _ rfl; (with_reducible repeat (first | refine blk_drewN ?_ _ | refine blk_drew ?_ | refine blk_alloc ?_ _)); refine blk_put (cs := #[.int .i64 t374, .int .i64 0, .int .i64 0, .int .i64 0, .int .i64 0, .int .i64 0, .int .i64 0, .int .i64 0, .int .i64 0, .int .i64 0]) ?_ 1 _ rfl; (with_reducible repeat (first | refine blk_drewN ?_ _ | refine blk_drew ?_ | refine blk_alloc ?_ _)); refine blk_put (cs := #[.int .i64 0, .int .i64 0, .int .i64 0, .int .i64 0, .int .i64 0, .int .i64 0, .int .i64 0, .int .i64 0, .int .i64 0, .int .i64 0]) ?_ 0 _ rfl; (with_reducible repeat (first | refine blk_drewN ?_ _ | refine blk_drew ?_ | refine blk_alloc ?_ _)); exact BK385.out) hb); have n3_ := Aside0.mk (below_step (by repeat (first | (with_reducible first | exact HB.out | apply below_alloc | apply pw_below_drewN | apply below_drew1 | refine below_set ?_ GE355.out | refine below_set ?_ GE385.out) | exact HB.out)) hb); clear BK355; clear BK385; clear HB; have HO388 := n0_; have BK355 := n1_; have BK385 := n2_; have HB := n3_; clear n0_ n1_ n2_ n3_; (try clear hb); (try clear hb2); (try clear hk); (try clear hi); (try clear ho0); have hcv36 := own_string (P := Tryd.prog) Tryd.underlying31 Tryd.underlying5 Tryd.underlying9 (Kd.own_of_R HO388.out); have hcv37 := fun (n_ : Nat) => own_string (P := Tryd.prog) Tryd.underlying31 Tryd.underlying5 Tryd.underlying9 (Kd.own_of_R (Kd.R_drewN HO388.out n_)); have hcv38 := Kd.C_string (P := Tryd.prog) (A := A1) (c := c1) Tryd.underlying31 Tryd.underlying5 Tryd.underlying9 (Kd.C_below HR1.out HB.out)))
                  go_ret
                  exact ⟨by first | rfl | (simp [errW_none, errW_some] <;> rfl) | (simp [*, errW_none, errW_some] <;> rfl), by repeat (first | (with_reducible first | exact HB.out | apply below_alloc | apply pw_below_drewN | apply below_drew1 | refine below_set ?_ GE355.out | refine below_set ?_ GE385.out) | exact HB.out)⟩
                · rw [if_neg c30] at H
                  exact absurd H (by simp)
              · rw [if_neg c28] at H
                have c28b0 : (t384 == 0) = false := beq_eq_false_iff_ne.mpr c28
                have c28b1 : (t384 != 0) = true := bne_iff_ne.mpr c28
                obtain rfl := Option.some.inj H
                go_wp2_with (first | ((with_reducible refine gate_callee (f := 14) rfl ?_); refine goesL_ (some 49) rfl rfl Tryd.func14 (by kernel_rfl) rfl #[.slice A1 l1.length c1] rfl (by (try simp only [List.map_toArray, List.map_cons, List.map_nil]); first | done | rfl | (simp only [List.length_drop, List.length_take]; rfl)) ?_; (with_reducible refine (msg_Get.calls kj11 _ _ l1 t374 t375 t376 t377 t378 t379 t380 t381 t382 t383 t384 _ ?side1 ?side2 ?sideG_ A27.out).mono ?_); (case sideG_ => exact hG.below rfl (by repeat (first | (with_reducible first | exact HB.out | apply below_alloc | apply pw_below_drewN | apply below_drew1 | refine below_set ?_ GE355.out) | exact HB.out))); (case side1 => repeat (first | exact (Kd.C_below HR1.out HB.out) | (with_reducible refine Kd.C_alloc ?_ _) | (with_reducible refine Kd.C_drewN ?_ _) | (with_reducible refine Kd.C_drew ?_))); (case side2 => exact HC1.out); rintro e w39 ⟨rfl, hb⟩; refine ⟨_, rfl, ?_⟩; have n0_ := Aside0.mk (blk_below (g := gb355) (o := .cells #[.int .i64 a0_0, .int .i64 a0_1, .int .i64 a0_2, .int .i64 a0_3, .int .i64 a0_4, .int .i64 a0_5, .int .i64 a0_6, .int .i64 a0_7, .int .i64 a0_8, .int .i64 a0_9] 29 (0, 0)) (by (with_reducible repeat (first | refine blk_drewN ?_ _ | refine blk_drew ?_ | refine blk_alloc ?_ _)); exact BK355.out) hb); have n1_ := Aside0.mk (below_step (by repeat (first | (with_reducible first | exact HB.out | apply below_alloc | apply pw_below_drewN | apply below_drew1 | refine below_set ?_ GE355.out) | exact HB.out)) hb); clear BK355; clear HB; have BK355 := n0_; have HB := n1_; clear n0_ n1_; (try clear hb); (try clear hb2); (try clear hk); (try clear hi)) | ((with_reducible refine gate_dst (N := 10) rfl ?_); (try (refine gate_guard (by rfl) ?_; dsimp only)); refine box_event ?hg (N := 10) ?hd (cs := #[.int .i64 0, .int .i64 0, .int .i64 0, .int .i64 0, .int .i64 0, .int .i64 0, .int .i64 0, .int .i64 0, .int .i64 0, .int .i64 0]) (t := 29) ?hr ?_; (case hd => rfl); (case hg => rfl); (case hr => first | (go_simp; done) | (go_simp; rfl)); intro gb385 hg w40 hbox hb; have n0_ := Aside0.mk (blk_below (g := gb355) (o := .cells #[.int .i64 a0_0, .int .i64 a0_1, .int .i64 a0_2, .int .i64 a0_3, .int .i64 a0_4, .int .i64 a0_5, .int .i64 a0_6, .int .i64 a0_7, .int .i64 a0_8, .int .i64 a0_9] 29 (0, 0)) (by (with_reducible repeat (first | refine blk_drewN ?_ _ | refine blk_drew ?_ | refine blk_alloc ?_ _)); exact BK355.out) hb); have n1_ := Aside0.mk (below_step (by repeat (first | (with_reducible first | exact HB.out | apply below_alloc | apply pw_below_drewN | apply below_drew1 | refine below_set ?_ GE355.out) | exact HB.out)) hb); have n2_ := Aside0.mk (hbox); have n3_ := Aside0.mk ((by rw [hg]; exact (below_size (by repeat (first | (with_reducible first | exact HB.out | apply below_alloc | apply pw_below_drewN | apply below_drew1 | refine below_set ?_ GE355.out) | exact HB.out))) : w.heap.size ≤ gb385)); have n4_ := Aside0.mk ((by rw [hg]; exact (below_size (by repeat (first | (with_reducible first | exact HB.out | apply below_alloc | apply pw_below_drewN | apply below_drew1 | refine below_set ?_ GE355.out) | exact HB.out))) : w.heap.size ≤ gb385)); have n5_ := Aside0.mk ((by rw [hg]; exact Nat.ne_of_lt (blk_lt (g := gb355) (o := .cells #[.int .i64 a0_0, .int .i64 a0_1, .int .i64 a0_2, .int .i64 a0_3, .int .i64 a0_4, .int .i64 a0_5, .int .i64 a0_6, .int .i64 a0_7, .int .i64 a0_8, .int .i64 a0_9] 29 (0, 0)) (by (with_reducible repeat (first | refine blk_drewN ?_ _ | refine blk_drew ?_ | refine blk_alloc ?_ _)); exact BK355.out)) : gb355 ≠ gb385)); have n6_ := Aside0.mk ((by rw [hg]; exact Nat.ne_of_gt (blk_lt (g := gb355) (o := .cells #[.int .i64 a0_0, .int .i64 a0_1, .int .i64 a0_2, .int .i64 a0_3, .int .i64 a0_4, .int .i64 a0_5, .int .i64 a0_6, .int .i64 a0_7, .int .i64 a0_8, .int .i64 a0_9] 29 (0, 0)) (by (with_reducible repeat (first | refine blk_drewN ?_ _ | refine blk_drew ?_ | refine blk_alloc ?_ _)); exact BK355.out)) : gb385 ≠ gb355)); clear BK355; clear HB; have BK355 := n0_; have HB := n1_; have BK385 := n2_; have GW385 := n3_; have GE385 := n4_; have NB355_385 := n5_; have NB385_355 := n6_; clear n0_ n1_ n2_ n3_ n4_ n5_ n6_; clear hb hbox hg; have hnb41 := NB385_355.out; have hnc41 := NB355_385.out; have hcz42_0 : w40.cell? ⟨gb385, 0, none⟩ = some (.int .i64 0) := (blk_cell BK385.out 0).trans rfl; have hcz42_1 : w40.cell? ⟨gb385, 1, none⟩ = some (.int .i64 0) := (blk_cell BK385.out 1).trans rfl; have hcz42_2 : w40.cell? ⟨gb385, 2, none⟩ = some (.int .i64 0) := (blk_cell BK385.out 2).trans rfl; have hcz42_3 : w40.cell? ⟨gb385, 3, none⟩ = some (.int .i64 0) := (blk_cell BK385.out 3).trans rfl; have hcz42_4 : w40.cell? ⟨gb385, 4, none⟩ = some (.int .i64 0) := (blk_cell BK385.out 4).trans rfl; have hcz42_5 : w40.cell? ⟨gb385, 5, none⟩ = some (.int .i64 0) := (blk_cell BK385.out 5).trans rfl; have hcz42_6 : w40.cell? ⟨gb385, 6, none⟩ = some (.int .i64 0) := (blk_cell BK385.out 6).trans rfl; have hcz42_7 : w40.cell? ⟨gb385, 7, none⟩ = some (.int .i64 0) := (blk_cell BK385.out 7).trans rfl; have hcz42_8 : w40.cell? ⟨gb385, 8, none⟩ = some (.int .i64 0) := (blk_cell BK385.out 8).trans rfl; have hcz42_9 : w40.cell? ⟨gb385, 9, none⟩ = some (.int .i64 0) := (blk_cell BK385.out 9).trans rfl; have hfz42_0 := blk_frozen BK385.out 0; have hfz42_1 := blk_frozen BK385.out 1; have hfz42_2 := blk_frozen BK385.out 2; have hfz42_3 := blk_frozen BK385.out 3; have hfz42_4 := blk_frozen BK385.out 4; have hfz42_5 := blk_frozen BK385.out 5; have hfz42_6 := blk_frozen BK385.out 6; have hfz42_7 := blk_frozen BK385.out 7; have hfz42_8 := blk_frozen BK385.out 8; have hfz42_9 := blk_frozen BK385.out 9))
                go_ret
                exact ⟨by first | rfl | (simp [errW_none, errW_some] <;> rfl) | (simp [*, errW_none, errW_some] <;> rfl), by repeat (first | (with_reducible first | exact HB.out | apply below_alloc | apply pw_below_drewN | apply below_drew1 | refine below_set ?_ GE355.out | refine below_set ?_ GE385.out) | exact HB.out)⟩
def wayfinderlaw05_MsgBack.Pure : Prop := ∀ (a0_0 : Int) (a0_1 : Int) (a0_2 : Int) (a0_3 : Int) (a0_4 : Int) (a0_5 : Int) (a0_6 : Int) (a0_7 : Int) (a0_8 : Int) (a0_9 : Int) (l1 : List Int), (Lit.int .i64 a0_0).wf = true → (Lit.int .i64 a0_1).wf = true → (Lit.int .i64 a0_2).wf = true → (Lit.int .i64 a0_3).wf = true → (Lit.int .i64 a0_4).wf = true → (Lit.int .i64 a0_5).wf = true → (Lit.int .i64 a0_6).wf = true → (Lit.int .i64 a0_7).wf = true → (Lit.int .i64 a0_8).wf = true → (Lit.int .i64 a0_9).wf = true → l1.length ≤ maxLen → l1.length * 1 ≤ 140737488351232 → (∀ x ∈ l1, (Lit.int .u8 x).wf = true) → ∃ k, wayfinderlaw05_MsgBack.f k a0_0 a0_1 a0_2 a0_3 a0_4 a0_5 a0_6 a0_7 a0_8 a0_9 l1 = some true
theorem wayfinderlaw05_MsgBack.walk (P : wayfinderlaw05_MsgBack.Pure) (a0_0 : Int) (a0_1 : Int) (a0_2 : Int) (a0_3 : Int) (a0_4 : Int) (a0_5 : Int) (a0_6 : Int) (a0_7 : Int) (a0_8 : Int) (a0_9 : Int) (a1 : Option Addr) (len1 cap1 : Nat) (z1 : List Int) (w : World) (hG : Glob w) (w0_0 : (Lit.int .i64 a0_0).wf = true) (w0_1 : (Lit.int .i64 a0_1).wf = true) (w0_2 : (Lit.int .i64 a0_2).wf = true) (w0_3 : (Lit.int .i64 a0_3).wf = true) (w0_4 : (Lit.int .i64 a0_4).wf = true) (w0_5 : (Lit.int .i64 a0_5).wf = true) (w0_6 : (Lit.int .i64 a0_6).wf = true) (w0_7 : (Lit.int .i64 a0_7).wf = true) (w0_8 : (Lit.int .i64 a0_8).wf = true) (w0_9 : (Lit.int .i64 a0_9).wf = true) (w1 : (a1 = none ∧ len1 = 0 ∧ cap1 = 0 ∧ z1 = []) ∨ ∃ x, a1 = some x ∧ len1 ≤ cap1 ∧ cap1 ≤ maxLen ∧ z1.length = cap1 ∧ (∀ i, i < z1.length → w.cell? (x.add i) = some (.int .u8 (z1.getD i 0))) ∧ ∀ n ∈ z1, (Lit.int .u8 n).wf = true) (y1 : len1 * 1 ≤ 140737488351232) :
    Calls Tryd.prog 7 #[.agg #[.int .i64 a0_0, .int .i64 a0_1, .int .i64 a0_2, .int .i64 a0_3, .int .i64 a0_4, .int .i64 a0_5, .int .i64 a0_6, .int .i64 a0_7, .int .i64 a0_8, .int .i64 a0_9], .slice a1 len1 cap1] w fun e w' => e = .returned (.bool true) ∧ Below w.heap.size w w' := by
  obtain ⟨l1, rfl, hr1, hm1, hw1, hc1⟩ := ReadsInt.ofRowC w1
  obtain ⟨k, h⟩ := P a0_0 a0_1 a0_2 a0_3 a0_4 a0_5 a0_6 a0_7 a0_8 a0_9 l1 w0_0 w0_1 w0_2 w0_3 w0_4 w0_5 w0_6 w0_7 w0_8 w0_9 hm1 y1 hw1
  refine (wayfinderlaw05_MsgBack.calls k a0_0 a0_1 a0_2 a0_3 a0_4 a0_5 a0_6 a0_7 a0_8 a0_9 _ _ l1 true w (Kd.C_of_reads (d := (0 : Int)) (h1 := fun _ => rfl) hr1) hc1 hG h).mono ?_
  rintro e w' ⟨rfl, hd⟩
  exact ⟨rfl, hd⟩
end Go.Proofs.YtdmajldpebooeaaDoor.All
