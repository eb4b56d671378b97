/- Contracts of Go functions that this seat comes to, each with a plain function that tells its answers; conditions: those that each contract names. Written by a program of this session (wip/print) over the print words. -/
import Derived.Test.YtdmajldpebooeaaDoorQ5Allx0
import Derived.Test.YtdmajldpebooeaaDoorQ5Allx3
import Derived.Test.YtdmajldpebooeaaDoorQ5Allx7
import Derived.Test.YtdmajldpebooeaaDoorQ5Allx17
import Derived.Test.YtdmajldpebooeaaDoorQ5Allx20
namespace Go.Proofs.YtdmajldpebooeaaDoor.All
open Go.RowKit Go.Proofs.YtdmajldpebooeaaDoorW.PrintWords Go.Proofs.YtdmajldpebooeaaDoorW.PrintLast Go.Proofs.YtdmajldpebooeaaDoorW.PrintMore
attribute [local go_sem] max2_int min2_int max_two min_two max_three min_three max_four min_four
set_option linter.unusedVariables false
set_option linter.unusedSimpArgs false
attribute [local go_sem high] eqA29
def wayfinderlaw05_MsgGets.j0 : Nat → List Int → Bool → Bool → Option (Bool)
 | 0, _, _, _ => none
 | k + 1, x0, x3, x15 => if x15 = true then (some x3) else ((msg_Get.f k x0).bind fun bt331 => ((wayfinderref05_Get.f k x0).bind fun bt343 => (if (bt331.1 == bt343.1 && (bt331.2.1 == bt343.2.1 && (bt331.2.2.1 == bt343.2.2.1 && (bt331.2.2.2.1 == bt343.2.2.2.1 && (((bt331.2.2.2.2.1 == bt343.2.2.2.2.1 && (bt331.2.2.2.2.2.1 == bt343.2.2.2.2.2.1)) && (bt331.2.2.2.2.2.2.1 == bt343.2.2.2.2.2.2.1 && (bt331.2.2.2.2.2.2.2.1 == bt343.2.2.2.2.2.2.2.1 && ((bt331.2.2.2.2.2.2.2.2.1 == bt343.2.2.2.2.2.2.2.2.1 && (bt331.2.2.2.2.2.2.2.2.2.1 == bt343.2.2.2.2.2.2.2.2.2.1))))))))))) = true then (some (bt331.2.2.2.2.2.2.2.2.2.2 == bt343.2.2.2.2.2.2.2.2.2.2)) else (none))))
def wayfinderlaw05_MsgGets.f (k : Nat) (l0 : List Int) : Option (Bool) := (wayfinderlaw05_awake.f k).bind fun t330 => (if t330 = true then (wayfinderlaw05_MsgGets.j0 k l0 t330 (decide ((l0.length : Int) > 3000))) else (wayfinderlaw05_MsgGets.j0 k l0 t330 true))
theorem wayfinderlaw05_MsgGets.mono_l : ∀ k, (∀ y0 y1 y2, LeO (wayfinderlaw05_MsgGets.j0 k y0 y1 y2) (wayfinderlaw05_MsgGets.j0 (k + 1) y0 y1 y2))
 | 0 => fun _ _ _ r h => by simp [wayfinderlaw05_MsgGets.j0] at h
 | k + 1 => by
  have ih0 := wayfinderlaw05_MsgGets.mono_l k
  ·intro y0 y1 y2
   unfold wayfinderlaw05_MsgGets.j0
   repeat' first
   | (with_reducible exact ih0 _ _ _)
   | (with_reducible exact msg_Get.mono _ _)
   | (with_reducible exact wayfinderlaw05_awake.mono _)
   | (with_reducible exact wayfinderref05_Get.mono _ _)
   | (with_reducible exact LeO.refl _)
   | (with_reducible exact LeO.none _)
   | (with_reducible refine LeO.ite ?_ ?_)
   | (with_reducible refine LeO.bind ?_ (fun _ => ?_))
   | exact ih0 _ _ _
   | exact msg_Get.mono _ _
   | exact wayfinderlaw05_awake.mono _
   | exact wayfinderref05_Get.mono _ _
   | exact LeO.none _
   | refine LeO.ite ?_ ?_
   | refine LeO.bind ?_ (fun _ => ?_)
theorem wayfinderlaw05_MsgGets.mono : ∀ a0 k, LeO (wayfinderlaw05_MsgGets.f k a0) (wayfinderlaw05_MsgGets.f (k + 1) a0) := by
 intro a0 k
 have ih0 := wayfinderlaw05_MsgGets.mono_l k
 unfold wayfinderlaw05_MsgGets.f
 repeat' first
   | (with_reducible exact ih0 _ _ _)
   | (with_reducible exact msg_Get.mono _ _)
   | (with_reducible exact wayfinderlaw05_awake.mono _)
   | (with_reducible exact wayfinderref05_Get.mono _ _)
   | (with_reducible exact LeO.refl _)
   | (with_reducible exact LeO.none _)
   | (with_reducible refine LeO.ite ?_ ?_)
   | (with_reducible refine LeO.bind ?_ (fun _ => ?_))
   | exact ih0 _ _ _
   | exact msg_Get.mono _ _
   | exact wayfinderlaw05_awake.mono _
   | exact wayfinderref05_Get.mono _ _
   | exact LeO.none _
   | refine LeO.ite ?_ ?_
   | refine LeO.bind ?_ (fun _ => ?_)
set_option maxHeartbeats 8000000 in
set_option maxRecDepth 100000 in
theorem wayfinderlaw05_MsgGets.calls (k : Nat) (A0 : Option Addr) (c0 : Nat) (l0 : List Int) (r : Bool) (w : World) (hr0 : Kd.C (Kd.int .u8) w A0 l0.length l0) (hc0 : l0.length ≤ c0) (hG : Glob w) (h : wayfinderlaw05_MsgGets.f k l0 = some r) :
  Calls Tryd.prog 6 #[.slice A0 l0.length c0] w fun e w' => e = .returned (.bool r) ∧ Below w.heap.size w w' := by
 have hu29 := Tryd.underlying29
 have HR0 := Aside0.mk hr0
 have HC0 := Aside0.mk hc0
 clear hr0 hc0
 have HB := Aside0.mk (Below.refl w.heap.size w)
 have H : ((wayfinderlaw05_awake.f k).bind fun t330 => (if t330 = true then (wayfinderlaw05_MsgGets.j0 k l0 t330 (decide ((l0.length : Int) > 3000))) else (wayfinderlaw05_MsgGets.j0 k l0 t330 true))) = some r := h
 clear h
 replace H := Option.bind_eq_some_iff.mp H
 obtain ⟨t330, A20, H⟩ := H
 replace H : (if t330 = true then (wayfinderlaw05_MsgGets.j0 k l0 t330 (decide ((l0.length : Int) > 3000))) else (wayfinderlaw05_MsgGets.j0 k l0 t330 true)) = some r := H
 have A2 := Aside0.mk A20
 clear A20
 have HC3 := Aside0.mk H
 clear H
 go_enter Tryd.func6, Tryd.ntmps6
 go_upto_region 2 with (first | ((with_reducible refine qqv (f := 9) rfl ?_); refine goesL_ (some 8) rfl rfl Tryd.func9 (by kernel_rfl) rfl #[] rfl (by (try simp only [List.map_toArray, List.map_cons, List.map_nil]); first | done | rfl | (simp only [List.length_drop, List.length_take]; rfl)) ?_; (with_reducible refine (wayfinderlaw05_awake.calls k  t330 _ ?sideG_ A2.out).mono ?_); (case sideG_ => exact hG.below rfl (by repeat (first | (with_reducible first | exact HB.out | apply qqg | apply qqa | apply qqf) | exact HB.out))); rintro e w4 ⟨rfl, hb⟩; refine ⟨_, rfl, ?_⟩; have n0_ := Aside0.mk (qqj (by repeat (first | (with_reducible first | exact HB.out | apply qqg | apply qqa | apply qqf) | exact HB.out)) hb); clear HB; have HB := n0_; clear n0_; (try clear hb); (try clear hb2); (try clear hk); (try clear hi)))
 (try simp only [Act.put, List.setIfInBounds_toArray, List.set_cons_zero, List.set_cons_succ])
 go_cut [15] (fun v15 wc => ∃ (kq : Nat) (x15_2 : Bool), v15 = .bool x15_2 ∧ Aside0 (wayfinderlaw05_MsgGets.j0 kq l0 t330 x15_2 = some r) ∧ Aside0 (kq ≤ k) ∧ Aside0 (Below w.heap.size w wc))
 case first =>
  have H := HC3.out
  clear HC3
  by_cases c5 : t330 = true
  ·subst c5
   have H1 : (wayfinderlaw05_MsgGets.j0 k l0 true (decide ((l0.length : Int) > 3000))) = some r := by rw [if_pos rfl] at H; exact H
   clear H
   have H := H1
   clear H1
   have H' := Aside0.mk H
   clear H
   go_wp2
   go_meet
   case rel => exact ⟨_, (decide ((l0.length : Int) > 3000)), (by first | rfl | (simp; done) | (simp [*]; done)), H', ⟨by first | omega | exact Nat.le_refl _⟩, ⟨by repeat (first | (with_reducible first | exact HB.out | apply qqg | apply qqa | apply qqf) | exact HB.out)⟩⟩
  ·replace c5 := Bool.eq_false_iff.mpr c5
   subst c5
   have H1 : (wayfinderlaw05_MsgGets.j0 k l0 false true) = some r := by rw [if_neg (show ¬ (false = true) by decide)] at H; exact H
   clear H
   have H := H1
   clear H1
   have H' := Aside0.mk H
   clear H
   go_wp2
   go_meet
   case rel => exact ⟨_, (true), (by first | rfl | (simp; done) | (simp [*]; done)), H', ⟨by first | omega | exact Nat.le_refl _⟩, ⟨by repeat (first | (with_reducible first | exact HB.out | apply qqg | apply qqa | apply qqf) | exact HB.out)⟩⟩
 case rest =>
  clear HC3
  try clear p2
  try clear c5
  obtain ⟨kq, x15_2, rfl, HA, HJ2, HB⟩ := hcut
  cases kq with
  | zero => exact absurd HA.out (by simp [wayfinderlaw05_MsgGets.j0])
  | succ kj2 =>
   have H := HA.out
   clear HA
   simp only [wayfinderlaw05_MsgGets.j0] at H
   by_cases c6 : x15_2 = true
   ·subst c6
    have H1 : (some t330) = some r := by rw [if_pos rfl] at H; exact H
    clear H
    have H := H1
    clear H1
    obtain rfl := Option.some.inj H
    go_wp2
    go_ret
    exact ⟨by first | rfl | (simp [qqo, qqn] <;> rfl) | (simp [*, qqo, qqn] <;> rfl), by repeat (first | (with_reducible first | exact HB.out | apply qqg | apply qqa | apply qqf) | exact HB.out)⟩
   ·replace c6 := Bool.eq_false_iff.mpr c6
    subst c6
    have H1 : ((msg_Get.f kj2 l0).bind fun bt331 => ((wayfinderref05_Get.f kj2 l0).bind fun bt343 => (if (bt331.1 == bt343.1 && (bt331.2.1 == bt343.2.1 && (bt331.2.2.1 == bt343.2.2.1 && (bt331.2.2.2.1 == bt343.2.2.2.1 && (((bt331.2.2.2.2.1 == bt343.2.2.2.2.1 && (bt331.2.2.2.2.2.1 == bt343.2.2.2.2.2.1)) && (bt331.2.2.2.2.2.2.1 == bt343.2.2.2.2.2.2.1 && (bt331.2.2.2.2.2.2.2.1 == bt343.2.2.2.2.2.2.2.1 && ((bt331.2.2.2.2.2.2.2.2.1 == bt343.2.2.2.2.2.2.2.2.1 && (bt331.2.2.2.2.2.2.2.2.2.1 == bt343.2.2.2.2.2.2.2.2.2.1))))))))))) = true then (some (bt331.2.2.2.2.2.2.2.2.2.2 == bt343.2.2.2.2.2.2.2.2.2.2)) else (none)))) = some r := by rw [if_neg (show ¬ (false = true) by decide)] at H; exact H
    clear H
    have H := H1
    clear H1
    replace H := Option.bind_eq_some_iff.mp H
    obtain ⟨⟨t331, t332, t333, t334, t335, t336, t337, t338, t339, t340, t341⟩, A70, H⟩ := H
    replace H : ((wayfinderref05_Get.f kj2 l0).bind fun bt343 => (if (t331 == bt343.1 && (t332 == bt343.2.1 && (t333 == bt343.2.2.1 && (t334 == bt343.2.2.2.1 && (((t335 == bt343.2.2.2.2.1 && (t336 == bt343.2.2.2.2.2.1)) && (t337 == bt343.2.2.2.2.2.2.1 && (t338 == bt343.2.2.2.2.2.2.2.1 && ((t339 == bt343.2.2.2.2.2.2.2.2.1 && (t340 == bt343.2.2.2.2.2.2.2.2.2.1))))))))))) = true then (some (t341 == bt343.2.2.2.2.2.2.2.2.2.2)) else (none))) = some r := H
    have A7 := Aside0.mk A70
    clear A70
    replace H := Option.bind_eq_some_iff.mp H
    obtain ⟨⟨t343, t344, t345, t346, t347, t348, t349, t350, t351, t352, t353⟩, A80, H⟩ := H
    replace H : (if (t331 == t343 && (t332 == t344 && (t333 == t345 && (t334 == t346 && (((t335 == t347 && (t336 == t348)) && (t337 == t349 && (t338 == t350 && ((t339 == t351 && (t340 == t352))))))))))) = true then (some (t341 == t353)) else (none)) = some r := H
    have A8 := Aside0.mk A80
    clear A80
    by_cases c9 : (t331 == t343 && (t332 == t344 && (t333 == t345 && (t334 == t346 && (((t335 == t347 && (t336 == t348)) && (t337 == t349 && (t338 == t350 && ((t339 == t351 && (t340 == t352))))))))))) = true
    ·rw [if_pos c9] at H
     have c9b0 : (t331 == t343 && (t332 == t344 && (t333 == t345 && (t334 == t346 && (((t335 == t347 && (t336 == t348)) && (t337 == t349 && (t338 == t350 && ((t339 == t351 && (t340 == t352))))))))))) = true := c9
     (try (have c9b1 : decide (t331 = t343 && (t332 == t344 && (t333 == t345 && (t334 == t346 && (((t335 == t347 && (t336 == t348)) && (t337 == t349 && (t338 == t350 && ((t339 == t351 && (t340 == t352))))))))))) = true := by simpa using c9))
     (try (have c9b2 : (t331 == t343 && (t332 == t344 && (t333 == t345 && (t334 == t346 && (((t335 == t347 && (t336 == t348)) && (t337 == t349 && (t338 == t350 && ((t339 == t351 && (t340 == t352))))))))))) = true := by simpa using c9))
     clear c9
     obtain rfl := Option.some.inj H
     go_wp2_with (first | ((with_reducible refine qqv (f := 14) rfl ?_); refine goesL_ (some 19) rfl rfl Tryd.func14 (by kernel_rfl) rfl #[.slice A0 l0.length c0] rfl (by (try simp only [List.map_toArray, List.map_cons, List.map_nil]); first | done | rfl | (simp only [List.length_drop, List.length_take]; rfl)) ?_; (with_reducible refine (msg_Get.calls kj2 _ _ l0 t331 t332 t333 t334 t335 t336 t337 t338 t339 t340 t341 _ ?side1 ?side2 ?sideG_ A7.out).mono ?_); (case sideG_ => exact hG.below rfl (by repeat (first | (with_reducible first | exact HB.out | apply qqg | apply qqa | apply qqf) | exact HB.out))); (case side1 => repeat (first | exact (Kd.C_below HR0.out HB.out) | (with_reducible refine Kd.C_alloc ?_ _) | (with_reducible refine Kd.C_drewN ?_ _) | (with_reducible refine Kd.C_drew ?_))); (case side2 => exact HC0.out); rintro e w10 ⟨rfl, hb⟩; refine ⟨_, rfl, ?_⟩; have n0_ := Aside0.mk (qqj (by repeat (first | (with_reducible first | exact HB.out | apply qqg | apply qqa | apply qqf) | exact HB.out)) hb); clear HB; have HB := n0_; clear n0_; (try clear hb); (try clear hb2); (try clear hk); (try clear hi)) | ((with_reducible refine qqx (N := 4) rfl ?_); (try (refine gate_guard (by rfl) ?_; dsimp only)); refine box_event ?hg (N := 4) ?hd (cs := #[.int .i64 0, .int .i64 0, .int .i64 0, .int .i64 0, .int .i64 0, .int .i64 0, .int .i64 0, .int .i64 0, .int .i64 0, .int .i64 0]) (t := 29) ?hr ?_; (case hd => rfl); (case hg => rfl); (case hr => first | (go_simp; done) | (go_simp; rfl)); intro gb342 hg w11 hbox hb; have n0_ := Aside0.mk (qqj (by repeat (first | (with_reducible first | exact HB.out | apply qqg | apply qqa | apply qqf) | exact HB.out)) hb); have n1_ := Aside0.mk (hbox); have n2_ := Aside0.mk ((by rw [hg]; exact (qqk (by repeat (first | (with_reducible first | exact HB.out | apply qqg | apply qqa | apply qqf) | exact HB.out))) : w.heap.size ≤ gb342)); have n3_ := Aside0.mk ((by rw [hg]; exact (qqk (by repeat (first | (with_reducible first | exact HB.out | apply qqg | apply qqa | apply qqf) | exact HB.out))) : w.heap.size ≤ gb342)); clear HB; have HB := n0_; have BK342 := n1_; have GW342 := n2_; have GE342 := n3_; clear n0_ n1_ n2_ n3_; clear hb hbox hg; obtain ⟨hcz12_0, hcz12_1, hcz12_2, hcz12_3, hcz12_4, hcz12_5, hcz12_6, hcz12_7, hcz12_8, hcz12_9⟩ := bcells10 BK342.out; obtain ⟨hfz12_0, hfz12_1, hfz12_2, hfz12_3, hfz12_4, hfz12_5, hfz12_6, hfz12_7, hfz12_8, hfz12_9⟩ := qqy BK342.out) | ((with_reducible refine qqv (f := 15) rfl ?_); refine goesL_ (some 24) rfl rfl Tryd.func15 (by kernel_rfl) rfl #[.slice A0 l0.length c0] rfl (by (try simp only [List.map_toArray, List.map_cons, List.map_nil]); first | done | rfl | (simp only [List.length_drop, List.length_take]; rfl)) ?_; (with_reducible refine (wayfinderref05_Get.calls kj2 _ _ l0 t343 t344 t345 t346 t347 t348 t349 t350 t351 t352 t353 _ ?side1 ?side2 A8.out).mono ?_); (case side1 => exact Kd.C_below HR0.out (by repeat (first | (with_reducible first | exact HB.out | apply qqg | apply qqa | apply qqf | refine qqh ?_ GE342.out) | exact HB.out))); (case side2 => exact HC0.out); rintro e w13 ⟨rfl, hb⟩; refine ⟨_, rfl, ?_⟩; have n0_ := Aside0.mk (qqm (g := gb342) (o := .cells #[.int .i64 t331, .int .i64 t332, .int .i64 t333, .int .i64 t334, .int .i64 t335, .int .i64 t336, .int .i64 t337, .int .i64 t338, .int .i64 t339, .int .i64 t340] 29 (0, 0)) (by (with_reducible repeat (first | refine qqc ?_ _ | refine qqe ?_ | refine qqd ?_ _)); refine qqi (cs := #[.int .i64 t331, .int .i64 t332, .int .i64 t333, .int .i64 t334, .int .i64 t335, .int .i64 t336, .int .i64 t337, .int .i64 t338, .int .i64 t339, .int .i64 0]) ?_ 9 _ rfl; (with_reducible repeat (first | refine qqc ?_ _ | refine qqe ?_ | refine qqd ?_ _)); refine qqi (cs := #[.int .i64 t331, .int .i64 t332, .int .i64 t333, .int .i64 t334, .int .i64 t335, .int .i64 t336, .int .i64 t337, .int .i64 t338, .int .i64 0, .int .i64 0]) ?_ 8 _ rfl; (with_reducible repeat (first | refine qqc ?_ _ | refine qqe ?_ | refine qqd ?_ _)); refine qqi (cs := #[.int .i64 t331, .int .i64 t332, .int .i64 t333, .int .i64 t334, .int .i64 t335, .int .i64 t336, .int .i64 t337, .int .i64 0, .int .i64 0, .int .i64 0]) ?_ 7 _ rfl; (with_reducible repeat (first | refine qqc ?_ _ | refine qqe ?_ | refine qqd ?_ _)); refine qqi (cs := #[.int .i64 t331, .int .i64 t332, .int .i64 t333, .int .i64 t334, .int .i64 t335, .int .i64 t336, .int .i64 0, .int .i64 0, .int .i64 0, .int .i64 0]) ?_ 6 _ rfl; (with_reducible repeat (first | refine qqc ?_ _ | refine qqe ?_ | refine qqd ?_ _)); refine qqi (cs := #[.int .i64 t331, .int .i64 t332, .int .i64 t333, .int .i64 t334, .int .i64 t335, .int .i64 0, .int .i64 0, .int .i64 0, .int .i64 0, .int .i64 0]) ?_ 5 _ rfl; (with_reducible repeat (first | refine qqc ?_ _ | refine qqe ?_ | refine qqd ?_ _)); refine qqi (cs := #[.int .i64 t331, .int .i64 t332, .int .i64 t333, .int .i64 t334, .int .i64 0, .int .i64 0, .int .i64 0, .int .i64 0, .int .i64 0, .int .i64 0]) ?_ 4 _ rfl; (with_reducible repeat (first | refine qqc ?_ _ | refine qqe ?_ | refine qqd ?_ _)); refine qqi (cs := #[.int .i64 t331, .int .i64 t332, .int .i64 t333, .int .i64 0, .int .i64 0, .int .i64 0, .int .i64 0, .int .i64 0, .int .i64 0, .int .i64 0]) ?_ 3 _ rfl; (with_reducible repeat (first | refine qqc ?_ _ | refine qqe ?_ | refine qqd ?_ _)); refine qqi (cs := #[.int .i64 t331, .int .i64 t332, .int .i64 0, .int .i64 0, .int .i64 0, .int .i64 0, .int .i64 0, .int .i64 0, .int .i64 0, .int .i64 0]) ?_ 2 _ rfl; (with_reducible repeat (first | refine qqc ?_ _ | refine qqe ?_ | refine qqd ?_ _)); refine qqi (cs := #[.int .i64 t331, .int .i64 0, .int .i64 0, .int .i64 0, .int .i64 0, .int .i64 0, .int .i64 0, .int .i64 0, .int .i64 0, .int .i64 0]) ?_ 1 _ rfl; (with_reducible repeat (first | refine qqc ?_ _ | refine qqe ?_ | refine qqd ?_ _)); refine qqi (cs := #[.int .i64 0, .int .i64 0, .int .i64 0, .int .i64 0, .int .i64 0, .int .i64 0, .int .i64 0, .int .i64 0, .int .i64 0, .int .i64 0]) ?_ 0 _ rfl; (with_reducible repeat (first | refine qqc ?_ _ | refine qqe ?_ | refine qqd ?_ _)); exact BK342.out) hb); have n1_ := Aside0.mk (qqj (by repeat (first | (with_reducible first | exact HB.out | apply qqg | apply qqa | apply qqf | refine qqh ?_ GE342.out) | exact HB.out)) hb); clear BK342; clear HB; have BK342 := n0_; have HB := n1_; clear n0_ n1_; (try clear hb); (try clear hb2); (try clear hk); (try clear hi)) | ((with_reducible refine qqx (N := 6) rfl ?_); (try (refine gate_guard (by rfl) ?_; dsimp only)); refine box_event ?hg (N := 6) ?hd (cs := #[.int .i64 0, .int .i64 0, .int .i64 0, .int .i64 0, .int .i64 0, .int .i64 0, .int .i64 0, .int .i64 0, .int .i64 0, .int .i64 0]) (t := 29) ?hr ?_; (case hd => rfl); (case hg => rfl); (case hr => first | (go_simp; done) | (go_simp; rfl)); intro gb354 hg w14 hbox hb; have n0_ := Aside0.mk (qqm (g := gb342) (o := .cells #[.int .i64 t331, .int .i64 t332, .int .i64 t333, .int .i64 t334, .int .i64 t335, .int .i64 t336, .int .i64 t337, .int .i64 t338, .int .i64 t339, .int .i64 t340] 29 (0, 0)) (by (with_reducible repeat (first | refine qqc ?_ _ | refine qqe ?_ | refine qqd ?_ _)); exact BK342.out) hb); have n1_ := Aside0.mk (qqj (by repeat (first | (with_reducible first | exact HB.out | apply qqg | apply qqa | apply qqf | refine qqh ?_ GE342.out) | exact HB.out)) hb); have n2_ := Aside0.mk (hbox); have n3_ := Aside0.mk ((by rw [hg]; exact (qqk (by repeat (first | (with_reducible first | exact HB.out | apply qqg | apply qqa | apply qqf | refine qqh ?_ GE342.out) | exact HB.out))) : w.heap.size ≤ gb354)); have n4_ := Aside0.mk ((by rw [hg]; exact (qqk (by repeat (first | (with_reducible first | exact HB.out | apply qqg | apply qqa | apply qqf | refine qqh ?_ GE342.out) | exact HB.out))) : w.heap.size ≤ gb354)); have n5_ := Aside0.mk ((by rw [hg]; exact Nat.ne_of_lt (blk_lt (g := gb342) (o := .cells #[.int .i64 t331, .int .i64 t332, .int .i64 t333, .int .i64 t334, .int .i64 t335, .int .i64 t336, .int .i64 t337, .int .i64 t338, .int .i64 t339, .int .i64 t340] 29 (0, 0)) (by (with_reducible repeat (first | refine qqc ?_ _ | refine qqe ?_ | refine qqd ?_ _)); exact BK342.out)) : gb342 ≠ gb354)); have n6_ := Aside0.mk ((by rw [hg]; exact Nat.ne_of_gt (blk_lt (g := gb342) (o := .cells #[.int .i64 t331, .int .i64 t332, .int .i64 t333, .int .i64 t334, .int .i64 t335, .int .i64 t336, .int .i64 t337, .int .i64 t338, .int .i64 t339, .int .i64 t340] 29 (0, 0)) (by (with_reducible repeat (first | refine qqc ?_ _ | refine qqe ?_ | refine qqd ?_ _)); exact BK342.out)) : gb354 ≠ gb342)); clear BK342; clear HB; have BK342 := n0_; have HB := n1_; have BK354 := n2_; have GW354 := n3_; have GE354 := n4_; have NB342_354 := n5_; have NB354_342 := n6_; clear n0_ n1_ n2_ n3_ n4_ n5_ n6_; clear hb hbox hg; have hnb15 := NB354_342.out; have hnc15 := NB342_354.out; obtain ⟨hcz16_0, hcz16_1, hcz16_2, hcz16_3, hcz16_4, hcz16_5, hcz16_6, hcz16_7, hcz16_8, hcz16_9⟩ := bcells10 BK354.out; obtain ⟨hfz16_0, hfz16_1, hfz16_2, hfz16_3, hfz16_4, hfz16_5, hfz16_6, hfz16_7, hfz16_8, hfz16_9⟩ := qqy BK354.out; obtain ⟨hcz17_0, hcz17_1, hcz17_2, hcz17_3, hcz17_4, hcz17_5, hcz17_6, hcz17_7, hcz17_8, hcz17_9⟩ := bcells10 BK342.out; obtain ⟨hfz17_0, hfz17_1, hfz17_2, hfz17_3, hfz17_4, hfz17_5, hfz17_6, hfz17_7, hfz17_8, hfz17_9⟩ := qqy BK342.out))
     go_ret
     exact ⟨by first | rfl | (simp [qqo, qqn] <;> rfl) | (simp [*, qqo, qqn] <;> rfl), by repeat (first | (with_reducible first | exact HB.out | apply qqg | apply qqa | apply qqf | refine qqh ?_ GE342.out | refine qqh ?_ GE354.out) | exact HB.out)⟩
    ·rw [if_neg c9] at H
     exact absurd H (by simp)
def wayfinderlaw05_MsgGets.Pure : Prop := ∀ (l0 : List Int), l0.length ≤ maxLen → l0.length * 1 ≤ 140737488351232 → (∀ x ∈ l0, (Lit.int .u8 x).wf = true) → ∃ k, wayfinderlaw05_MsgGets.f k l0 = some true
theorem wayfinderlaw05_MsgGets.walk (P : wayfinderlaw05_MsgGets.Pure) (a0 : Option Addr) (len0 cap0 : Nat) (z0 : List Int) (w : World) (hG : Glob w) (w0 : (a0 = none ∧ len0 = 0 ∧ cap0 = 0 ∧ z0 = []) ∨ ∃ x, a0 = some x ∧ len0 ≤ cap0 ∧ cap0 ≤ maxLen ∧ z0.length = cap0 ∧ (∀ i, i < z0.length → w.cell? (x.add i) = some (.int .u8 (z0.getD i 0))) ∧ ∀ n ∈ z0, (Lit.int .u8 n).wf = true) (y0 : len0 * 1 ≤ 140737488351232) :
  Calls Tryd.prog 6 #[.slice a0 len0 cap0] w fun e w' => e = .returned (.bool true) ∧ Below w.heap.size w w' := by
 obtain ⟨l0, rfl, hr0, hm0, hw0, hc0⟩ := ReadsInt.ofRowC w0
 obtain ⟨k, h⟩ := P l0 hm0 y0 hw0
 refine (wayfinderlaw05_MsgGets.calls k _ _ l0 true w (Kd.C_of_reads (d := (0 : Int)) (h1 := fun _ => rfl) hr0) hc0 hG h).mono ?_
 rintro e w' ⟨rfl, hd⟩
 exact ⟨rfl, hd⟩
end Go.Proofs.YtdmajldpebooeaaDoor.All
