/- Contracts of Go functions that this seat comes to, each with a plain function that tells its answers; conditions: those that each contract names. Written by a program of this session (wip/print) over the print words. -/
import Derived.Test.YtjnbnjlkljpbeaaAllx0
import Derived.Test.YtjnbnjlkljpbeaaAllx3
import Derived.Test.YtjnbnjlkljpbeaaAllx6
import Derived.Test.YtjnbnjlkljpbeaaAllx13
import Derived.Test.YtjnbnjlkljpbeaaAllx15
namespace Go.Proofs.Ytjnbnjlkljpbeaa.All
open Go.RowKit Go.Proofs.YtjnbnjlkljpbeaaW.PrintWords Go.Proofs.YtjnbnjlkljpbeaaW.PrintLast Go.Proofs.YtjnbnjlkljpbeaaW.PrintMore
attribute [local go_sem] max2_int min2_int max_two min_two max_three min_three max_four min_four   -- for this text's walks alone
set_option linter.unusedVariables false
set_option linter.unusedSimpArgs false

attribute [local go_sem high] eqA27
/-! ### wayfinderlaw04_RuleGets: function 8 -/
def wayfinderlaw04_RuleGets.j0 : Nat → List Int → Bool → Bool → Option (Bool)
  | 0, _, _, _ => none
  | k + 1, x0, x3, x15 => if x15 = true then (some x3) else ((rule_Get.f k x0).bind fun bt259 => ((wayfinderref04_Get.f k x0).bind fun bt267 => (if ((bt259.1 == bt267.1 && (bt259.2.1 == bt267.2.1)) && (bt259.2.2.1 == bt267.2.2.1 && (bt259.2.2.2.1 == bt267.2.2.2.1 && ((bt259.2.2.2.2.1 == bt267.2.2.2.2.1 && (bt259.2.2.2.2.2.1 == bt267.2.2.2.2.2.1)))))) = true then (some (bt259.2.2.2.2.2.2 == bt267.2.2.2.2.2.2)) else (some false))))
def wayfinderlaw04_RuleGets.f (k : Nat) (l0 : List Int) : Option (Bool) := (wayfinderlaw04_awake.f k).bind fun t258 => (if t258 = true then (wayfinderlaw04_RuleGets.j0 k l0 t258 (decide ((l0.length : Int) > 3000))) else (wayfinderlaw04_RuleGets.j0 k l0 t258 true))
theorem wayfinderlaw04_RuleGets.mono_l : ∀ k, (∀ y0 y1 y2, LeO (wayfinderlaw04_RuleGets.j0 k y0 y1 y2) (wayfinderlaw04_RuleGets.j0 (k + 1) y0 y1 y2))
  | 0 => fun _ _ _ r h => by simp [wayfinderlaw04_RuleGets.j0] at h
  | k + 1 => by
    have ih0 := wayfinderlaw04_RuleGets.mono_l k
    · intro y0 y1 y2
      unfold wayfinderlaw04_RuleGets.j0
      repeat' first
      | (with_reducible exact ih0 _ _ _)
      | (with_reducible exact rule_Get.mono _ _)
      | (with_reducible exact wayfinderlaw04_awake.mono _)
      | (with_reducible exact wayfinderref04_Get.mono _ _)
      | (with_reducible exact LeO.refl _)
      | (with_reducible exact LeO.none _)
      | (with_reducible refine LeO.ite ?_ ?_)
      | (with_reducible refine LeO.bind ?_ (fun _ => ?_))
      | exact ih0 _ _ _
      | exact rule_Get.mono _ _
      | exact wayfinderlaw04_awake.mono _
      | exact wayfinderref04_Get.mono _ _
      | exact LeO.none _
      | refine LeO.ite ?_ ?_
      | refine LeO.bind ?_ (fun _ => ?_)
theorem wayfinderlaw04_RuleGets.mono : ∀ a0 k, LeO (wayfinderlaw04_RuleGets.f k a0) (wayfinderlaw04_RuleGets.f (k + 1) a0) := by
  intro a0 k
  have ih0 := wayfinderlaw04_RuleGets.mono_l k
  unfold wayfinderlaw04_RuleGets.f
  repeat' first
      | (with_reducible exact ih0 _ _ _)
      | (with_reducible exact rule_Get.mono _ _)
      | (with_reducible exact wayfinderlaw04_awake.mono _)
      | (with_reducible exact wayfinderref04_Get.mono _ _)
      | (with_reducible exact LeO.refl _)
      | (with_reducible exact LeO.none _)
      | (with_reducible refine LeO.ite ?_ ?_)
      | (with_reducible refine LeO.bind ?_ (fun _ => ?_))
      | exact ih0 _ _ _
      | exact rule_Get.mono _ _
      | exact wayfinderlaw04_awake.mono _
      | exact wayfinderref04_Get.mono _ _
      | exact LeO.none _
      | refine LeO.ite ?_ ?_
      | refine LeO.bind ?_ (fun _ => ?_)
set_option maxHeartbeats 8000000 in
set_option maxRecDepth 100000 in
theorem wayfinderlaw04_RuleGets.calls (k : Nat) (A0 : Option Addr) (c0 : Nat) (l0 : List Int) (r : Bool) (w : World) (hr0 : Kd.C (Kd.int .u8) w A0 l0.length l0) (hc0 : l0.length ≤ c0) (h : wayfinderlaw04_RuleGets.f k l0 = some r) :
    Calls Try.prog 8 #[.slice A0 l0.length c0] w fun e w' => e = .returned (.bool r) ∧ Below w.heap.size w w' := by
  have hu27 := Try.underlying27
  have HR0 := Aside0.mk hr0
  have HC0 := Aside0.mk hc0
  clear hr0 hc0
  have HB := Aside0.mk (Below.refl w.heap.size w)
  have H : ((wayfinderlaw04_awake.f k).bind fun t258 => (if t258 = true then (wayfinderlaw04_RuleGets.j0 k l0 t258 (decide ((l0.length : Int) > 3000))) else (wayfinderlaw04_RuleGets.j0 k l0 t258 true))) = some r := h
  clear h
  replace H := Option.bind_eq_some_iff.mp H
  obtain ⟨t258, A20, H⟩ := H
  replace H : (if t258 = true then (wayfinderlaw04_RuleGets.j0 k l0 t258 (decide ((l0.length : Int) > 3000))) else (wayfinderlaw04_RuleGets.j0 k l0 t258 true)) = some r := H
  have A2 := Aside0.mk A20
  clear A20
  have HC3 := Aside0.mk H
  clear H
  go_enter Try.func8, Try.ntmps8
  go_upto_region 2 with (first | ((with_reducible refine gate_callee (f := 11) rfl ?_); refine goesL_ (some 8) rfl rfl Try.func11 (by kernel_rfl) rfl #[] rfl (by (try simp only [List.map_toArray, List.map_cons, List.map_nil]); first | done | rfl | (simp only [List.length_drop, List.length_take]; rfl)) ?_; (with_reducible refine (wayfinderlaw04_awake.calls k  t258 _ A2.out).mono ?_); rintro e w4 ⟨rfl, hb⟩; refine ⟨_, rfl, ?_⟩; have n0_ := Aside0.mk (below_step (by repeat (first | (with_reducible first | exact HB.out | apply below_alloc | apply pw_below_drewN | apply below_drew1) | exact HB.out)) hb); clear HB; have HB := n0_; clear n0_; (try clear hb); (try clear hb2); (try clear hk); (try clear hi)))
  (try simp only [Act.put, List.setIfInBounds_toArray, List.set_cons_zero, List.set_cons_succ])
  go_cut [15] (fun v15 wc => ∃ (kq : Nat) (x15_2 : Bool), v15 = .bool x15_2 ∧ Aside0 (wayfinderlaw04_RuleGets.j0 kq l0 t258 x15_2 = some r) ∧ Aside0 (kq ≤ k) ∧ Aside0 (Below w.heap.size w wc))
  case first =>
    have H := HC3.out
    clear HC3
    by_cases c5 : t258 = true
    · subst c5
      have H1 : (wayfinderlaw04_RuleGets.j0 k l0 true (decide ((l0.length : Int) > 3000))) = some r := by rw [if_pos rfl] at H; exact H
      clear H
      have H := H1
      clear H1
      have H' := Aside0.mk H
      clear H
      go_wp2
      go_meet
      case rel => exact ⟨_, (decide ((l0.length : Int) > 3000)), (by first | rfl | (simp; done) | (simp [*]; done)), H', ⟨by first | omega | exact Nat.le_refl _⟩, ⟨by repeat (first | (with_reducible first | exact HB.out | apply below_alloc | apply pw_below_drewN | apply below_drew1) | exact HB.out)⟩⟩
    · replace c5 := Bool.eq_false_iff.mpr c5
      subst c5
      have H1 : (wayfinderlaw04_RuleGets.j0 k l0 false true) = some r := by rw [if_neg (show ¬ (false = true) by decide)] at H; exact H
      clear H
      have H := H1
      clear H1
      have H' := Aside0.mk H
      clear H
      go_wp2
      go_meet
      case rel => exact ⟨_, (true), (by first | rfl | (simp; done) | (simp [*]; done)), H', ⟨by first | omega | exact Nat.le_refl _⟩, ⟨by repeat (first | (with_reducible first | exact HB.out | apply below_alloc | apply pw_below_drewN | apply below_drew1) | exact HB.out)⟩⟩
  case rest =>
    clear HC3
    try clear c1
    try clear p2
    try clear c5
    obtain ⟨kq, x15_2, rfl, HA, HJ2, HB⟩ := hcut
    cases kq with
    | zero => exact absurd HA.out (by simp [wayfinderlaw04_RuleGets.j0])
    | succ kj2 =>
      have H := HA.out
      clear HA
      simp only [wayfinderlaw04_RuleGets.j0] at H
      by_cases c6 : x15_2 = true
      · subst c6
        have H1 : (some t258) = some r := by rw [if_pos rfl] at H; exact H
        clear H
        have H := H1
        clear H1
        obtain rfl := Option.some.inj H
        go_wp2
        go_ret
        exact ⟨by first | rfl | (simp [errW_none, errW_some] <;> rfl) | (simp [*, errW_none, errW_some] <;> rfl), by repeat (first | (with_reducible first | exact HB.out | apply below_alloc | apply pw_below_drewN | apply below_drew1) | exact HB.out)⟩
      · replace c6 := Bool.eq_false_iff.mpr c6
        subst c6
        have H1 : ((rule_Get.f kj2 l0).bind fun bt259 => ((wayfinderref04_Get.f kj2 l0).bind fun bt267 => (if ((bt259.1 == bt267.1 && (bt259.2.1 == bt267.2.1)) && (bt259.2.2.1 == bt267.2.2.1 && (bt259.2.2.2.1 == bt267.2.2.2.1 && ((bt259.2.2.2.2.1 == bt267.2.2.2.2.1 && (bt259.2.2.2.2.2.1 == bt267.2.2.2.2.2.1)))))) = true then (some (bt259.2.2.2.2.2.2 == bt267.2.2.2.2.2.2)) else (some false)))) = some r := by rw [if_neg (show ¬ (false = true) by decide)] at H; exact H
        clear H
        have H := H1
        clear H1
        replace H := Option.bind_eq_some_iff.mp H
        obtain ⟨⟨t259, t260, t261, t262, t263, t264, t265⟩, A70, H⟩ := H
        replace H : ((wayfinderref04_Get.f kj2 l0).bind fun bt267 => (if ((t259 == bt267.1 && (t260 == bt267.2.1)) && (t261 == bt267.2.2.1 && (t262 == bt267.2.2.2.1 && ((t263 == bt267.2.2.2.2.1 && (t264 == bt267.2.2.2.2.2.1)))))) = true then (some (t265 == bt267.2.2.2.2.2.2)) else (some false))) = some r := H
        have A7 := Aside0.mk A70
        clear A70
        replace H := Option.bind_eq_some_iff.mp H
        obtain ⟨⟨t267, t268, t269, t270, t271, t272, t273⟩, A80, H⟩ := H
        replace H : (if ((t259 == t267 && (t260 == t268)) && (t261 == t269 && (t262 == t270 && ((t263 == t271 && (t264 == t272)))))) = true then (some (t265 == t273)) else (some false)) = some r := H
        have A8 := Aside0.mk A80
        clear A80
        by_cases c9 : ((t259 == t267 && (t260 == t268)) && (t261 == t269 && (t262 == t270 && ((t263 == t271 && (t264 == t272)))))) = true
        · rw [if_pos c9] at H
          have c9b0 : ((t259 == t267 && (t260 == t268)) && (t261 == t269 && (t262 == t270 && ((t263 == t271 && (t264 == t272)))))) = true := c9
          clear c9
          obtain rfl := Option.some.inj H
          go_wp2_with (first | ((with_reducible refine gate_callee (f := 25) rfl ?_); refine goesL_ (some 19) rfl rfl Try.func25 (by kernel_rfl) rfl #[.slice A0 l0.length c0] rfl (by (try simp only [List.map_toArray, List.map_cons, List.map_nil]); first | done | rfl | (simp only [List.length_drop, List.length_take]; rfl)) ?_; (with_reducible refine (rule_Get.calls kj2 _ _ l0 t259 t260 t261 t262 t263 t264 t265 _ ?side1 ?side2 A7.out).mono ?_); (case side1 => repeat (first | exact (Kd.C_below HR0.out HB.out) | (with_reducible refine Kd.C_alloc ?_ _) | (with_reducible refine Kd.C_drewN ?_ _) | (with_reducible refine Kd.C_drew ?_))); (case side2 => exact HC0.out); rintro e w10 ⟨rfl, hb⟩; refine ⟨_, rfl, ?_⟩; have n0_ := Aside0.mk (below_step (by repeat (first | (with_reducible first | exact HB.out | apply below_alloc | apply pw_below_drewN | apply below_drew1) | exact HB.out)) hb); clear HB; have HB := n0_; clear n0_; (try clear hb); (try clear hb2); (try clear hk); (try clear hi)) | ((with_reducible refine gate_dst (N := 4) rfl ?_); (try (refine gate_guard (by rfl) ?_; dsimp only)); refine box_event ?hg (N := 4) ?hd (cs := #[.int .i64 0, .int .i64 0, .int .i64 0, .int .i64 0, .int .i64 0, .int .i64 0]) (t := 27) ?hr ?_; (case hd => rfl); (case hg => rfl); (case hr => first | (go_simp; done) | (go_simp; rfl)); intro gb266 hg w11 hbox hb; have n0_ := Aside0.mk (below_step (by repeat (first | (with_reducible first | exact HB.out | apply below_alloc | apply pw_below_drewN | apply below_drew1) | exact HB.out)) hb); have n1_ := Aside0.mk (hbox); have n2_ := Aside0.mk ((by rw [hg]; exact (below_size (by repeat (first | (with_reducible first | exact HB.out | apply below_alloc | apply pw_below_drewN | apply below_drew1) | exact HB.out))) : w.heap.size ≤ gb266)); have n3_ := Aside0.mk ((by rw [hg]; exact (below_size (by repeat (first | (with_reducible first | exact HB.out | apply below_alloc | apply pw_below_drewN | apply below_drew1) | exact HB.out))) : w.heap.size ≤ gb266)); clear HB; have HB := n0_; have BK266 := n1_; have GW266 := n2_; have GE266 := n3_; clear n0_ n1_ n2_ n3_; clear hb hbox hg; have hcz12_0 : w11.cell? ⟨gb266, 0, none⟩ = some (.int .i64 0) := (blk_cell BK266.out 0).trans rfl; have hcz12_1 : w11.cell? ⟨gb266, 1, none⟩ = some (.int .i64 0) := (blk_cell BK266.out 1).trans rfl; have hcz12_2 : w11.cell? ⟨gb266, 2, none⟩ = some (.int .i64 0) := (blk_cell BK266.out 2).trans rfl; have hcz12_3 : w11.cell? ⟨gb266, 3, none⟩ = some (.int .i64 0) := (blk_cell BK266.out 3).trans rfl; have hcz12_4 : w11.cell? ⟨gb266, 4, none⟩ = some (.int .i64 0) := (blk_cell BK266.out 4).trans rfl; have hcz12_5 : w11.cell? ⟨gb266, 5, none⟩ = some (.int .i64 0) := (blk_cell BK266.out 5).trans rfl; have hfz12_0 := blk_frozen BK266.out 0; have hfz12_1 := blk_frozen BK266.out 1; have hfz12_2 := blk_frozen BK266.out 2; have hfz12_3 := blk_frozen BK266.out 3; have hfz12_4 := blk_frozen BK266.out 4; have hfz12_5 := blk_frozen BK266.out 5) | ((with_reducible refine gate_callee (f := 26) rfl ?_); refine goesL_ (some 24) rfl rfl Try.func26 (by kernel_rfl) rfl #[.slice A0 l0.length c0] rfl (by (try simp only [List.map_toArray, List.map_cons, List.map_nil]); first | done | rfl | (simp only [List.length_drop, List.length_take]; rfl)) ?_; (with_reducible refine (wayfinderref04_Get.calls kj2 _ _ l0 t267 t268 t269 t270 t271 t272 t273 _ ?side1 ?side2 A8.out).mono ?_); (case side1 => exact Kd.C_below HR0.out (by repeat (first | (with_reducible first | exact HB.out | apply below_alloc | apply pw_below_drewN | apply below_drew1 | refine below_set ?_ GE266.out) | exact HB.out))); (case side2 => exact HC0.out); rintro e w13 ⟨rfl, hb⟩; refine ⟨_, rfl, ?_⟩; have n0_ := Aside0.mk (blk_below (g := gb266) (o := .cells #[.int .i64 t259, .int .i64 t260, .int .i64 t261, .int .i64 t262, .int .i64 t263, .int .i64 t264] 27 (0, 0)) (by (with_reducible repeat (first | refine blk_drewN ?_ _ | refine blk_drew ?_ | refine blk_alloc ?_ _)); refine blk_put (cs := #[.int .i64 t259, .int .i64 t260, .int .i64 t261, .int .i64 t262, .int .i64 t263, .int .i64 0]) ?_ 5 _ rfl; (with_reducible repeat (first | refine blk_drewN ?_ _ | refine blk_drew ?_ | refine blk_alloc ?_ _)); refine blk_put (cs := #[.int .i64 t259, .int .i64 t260, .int .i64 t261, .int .i64 t262, .int .i64 0, .int .i64 0]) ?_ 4 _ rfl; (with_reducible repeat (first | refine blk_drewN ?_ _ | refine blk_drew ?_ | refine blk_alloc ?_ _)); refine blk_put (cs := #[.int .i64 t259, .int .i64 t260, .int .i64 t261, .int .i64 0, .int .i64 0, .int .i64 0]) ?_ 3 _ rfl; (with_reducible repeat (first | refine blk_drewN ?_ _ | refine blk_drew ?_ | refine blk_alloc ?_ _)); refine blk_put (cs := #[.int .i64 t259, .int .i64 t260, .int .i64 0, .int .i64 0, .int .i64 0, .int .i64 0]) ?_ 2 _ rfl; (with_reducible repeat (first | refine blk_drewN ?_ _ | refine blk_drew ?_ | refine blk_alloc ?_ _)); refine blk_put (cs := #[.int .i64 t259, .int .i64 0, .int .i64 0, .int .i64 0, .int .i64 0, .int .i64 0]) ?_ 1 _ rfl; (with_reducible repeat (first | refine blk_drewN ?_ _ | refine blk_drew ?_ | refine blk_alloc ?_ _)); refine blk_put (cs := #[.int .i64 0, .int .i64 0, .int .i64 0, .int .i64 0, .int .i64 0, .int .i64 0]) ?_ 0 _ rfl; (with_reducible repeat (first | refine blk_drewN ?_ _ | refine blk_drew ?_ | refine blk_alloc ?_ _)); exact BK266.out) hb); have n1_ := Aside0.mk (below_step (by repeat (first | (with_reducible first | exact HB.out | apply below_alloc | apply pw_below_drewN | apply below_drew1 | refine below_set ?_ GE266.out) | exact HB.out)) hb); clear BK266; clear HB; have BK266 := n0_; have HB := n1_; clear n0_ n1_; (try clear hb); (try clear hb2); (try clear hk); (try clear hi)) | ((with_reducible refine gate_dst (N := 6) rfl ?_); (try (refine gate_guard (by rfl) ?_; dsimp only)); refine box_event ?hg (N := 6) ?hd (cs := #[.int .i64 0, .int .i64 0, .int .i64 0, .int .i64 0, .int .i64 0, .int .i64 0]) (t := 27) ?hr ?_; (case hd => rfl); (case hg => rfl); (case hr => first | (go_simp; done) | (go_simp; rfl)); intro gb274 hg w14 hbox hb; have n0_ := Aside0.mk (blk_below (g := gb266) (o := .cells #[.int .i64 t259, .int .i64 t260, .int .i64 t261, .int .i64 t262, .int .i64 t263, .int .i64 t264] 27 (0, 0)) (by (with_reducible repeat (first | refine blk_drewN ?_ _ | refine blk_drew ?_ | refine blk_alloc ?_ _)); exact BK266.out) hb); have n1_ := Aside0.mk (below_step (by repeat (first | (with_reducible first | exact HB.out | apply below_alloc | apply pw_below_drewN | apply below_drew1 | refine below_set ?_ GE266.out) | exact HB.out)) hb); have n2_ := Aside0.mk (hbox); have n3_ := Aside0.mk ((by rw [hg]; exact (below_size (by repeat (first | (with_reducible first | exact HB.out | apply below_alloc | apply pw_below_drewN | apply below_drew1 | refine below_set ?_ GE266.out) | exact HB.out))) : w.heap.size ≤ gb274)); have n4_ := Aside0.mk ((by rw [hg]; exact (below_size (by repeat (first | (with_reducible first | exact HB.out | apply below_alloc | apply pw_below_drewN | apply below_drew1 | refine below_set ?_ GE266.out) | exact HB.out))) : w.heap.size ≤ gb274)); have n5_ := Aside0.mk ((by rw [hg]; exact Nat.ne_of_lt (blk_lt (g := gb266) (o := .cells #[.int .i64 t259, .int .i64 t260, .int .i64 t261, .int .i64 t262, .int .i64 t263, .int .i64 t264] 27 (0, 0)) (by (with_reducible repeat (first | refine blk_drewN ?_ _ | refine blk_drew ?_ | refine blk_alloc ?_ _)); exact BK266.out)) : gb266 ≠ gb274)); have n6_ := Aside0.mk ((by rw [hg]; exact Nat.ne_of_gt (blk_lt (g := gb266) (o := .cells #[.int .i64 t259, .int .i64 t260, .int .i64 t261, .int .i64 t262, .int .i64 t263, .int .i64 t264] 27 (0, 0)) (by (with_reducible repeat (first | refine blk_drewN ?_ _ | refine blk_drew ?_ | refine blk_alloc ?_ _)); exact BK266.out)) : gb274 ≠ gb266)); clear BK266; clear HB; have BK266 := n0_; have HB := n1_; have BK274 := n2_; have GW274 := n3_; have GE274 := n4_; have NB266_274 := n5_; have NB274_266 := n6_; clear n0_ n1_ n2_ n3_ n4_ n5_ n6_; clear hb hbox hg; have hnb15 := NB274_266.out; have hnc15 := NB266_274.out; have hcz16_0 : w14.cell? ⟨gb274, 0, none⟩ = some (.int .i64 0) := (blk_cell BK274.out 0).trans rfl; have hcz16_1 : w14.cell? ⟨gb274, 1, none⟩ = some (.int .i64 0) := (blk_cell BK274.out 1).trans rfl; have hcz16_2 : w14.cell? ⟨gb274, 2, none⟩ = some (.int .i64 0) := (blk_cell BK274.out 2).trans rfl; have hcz16_3 : w14.cell? ⟨gb274, 3, none⟩ = some (.int .i64 0) := (blk_cell BK274.out 3).trans rfl; have hcz16_4 : w14.cell? ⟨gb274, 4, none⟩ = some (.int .i64 0) := (blk_cell BK274.out 4).trans rfl; have hcz16_5 : w14.cell? ⟨gb274, 5, none⟩ = some (.int .i64 0) := (blk_cell BK274.out 5).trans rfl; have hfz16_0 := blk_frozen BK274.out 0; have hfz16_1 := blk_frozen BK274.out 1; have hfz16_2 := blk_frozen BK274.out 2; have hfz16_3 := blk_frozen BK274.out 3; have hfz16_4 := blk_frozen BK274.out 4; have hfz16_5 := blk_frozen BK274.out 5; have hcz17_0 : w14.cell? ⟨gb266, 0, none⟩ = some (.int .i64 t259) := (blk_cell BK266.out 0).trans rfl; have hcz17_1 : w14.cell? ⟨gb266, 1, none⟩ = some (.int .i64 t260) := (blk_cell BK266.out 1).trans rfl; have hcz17_2 : w14.cell? ⟨gb266, 2, none⟩ = some (.int .i64 t261) := (blk_cell BK266.out 2).trans rfl; have hcz17_3 : w14.cell? ⟨gb266, 3, none⟩ = some (.int .i64 t262) := (blk_cell BK266.out 3).trans rfl; have hcz17_4 : w14.cell? ⟨gb266, 4, none⟩ = some (.int .i64 t263) := (blk_cell BK266.out 4).trans rfl; have hcz17_5 : w14.cell? ⟨gb266, 5, none⟩ = some (.int .i64 t264) := (blk_cell BK266.out 5).trans rfl; have hfz17_0 := blk_frozen BK266.out 0; have hfz17_1 := blk_frozen BK266.out 1; have hfz17_2 := blk_frozen BK266.out 2; have hfz17_3 := blk_frozen BK266.out 3; have hfz17_4 := blk_frozen BK266.out 4; have hfz17_5 := blk_frozen BK266.out 5))
          go_ret
          exact ⟨by first | rfl | (simp [errW_none, errW_some] <;> rfl) | (simp [*, errW_none, errW_some] <;> rfl), by repeat (first | (with_reducible first | exact HB.out | apply below_alloc | apply pw_below_drewN | apply below_drew1 | refine below_set ?_ GE266.out | refine below_set ?_ GE274.out) | exact HB.out)⟩
        · rw [if_neg c9] at H
          have c9b0 : ((t259 == t267 && (t260 == t268)) && (t261 == t269 && (t262 == t270 && ((t263 == t271 && (t264 == t272)))))) = false := by simpa using c9
          clear c9
          obtain rfl := Option.some.inj H
          go_wp2_with (first | ((with_reducible refine gate_callee (f := 25) rfl ?_); refine goesL_ (some 19) rfl rfl Try.func25 (by kernel_rfl) rfl #[.slice A0 l0.length c0] rfl (by (try simp only [List.map_toArray, List.map_cons, List.map_nil]); first | done | rfl | (simp only [List.length_drop, List.length_take]; rfl)) ?_; (with_reducible refine (rule_Get.calls kj2 _ _ l0 t259 t260 t261 t262 t263 t264 t265 _ ?side1 ?side2 A7.out).mono ?_); (case side1 => repeat (first | exact (Kd.C_below HR0.out HB.out) | (with_reducible refine Kd.C_alloc ?_ _) | (with_reducible refine Kd.C_drewN ?_ _) | (with_reducible refine Kd.C_drew ?_))); (case side2 => exact HC0.out); rintro e w18 ⟨rfl, hb⟩; refine ⟨_, rfl, ?_⟩; have n0_ := Aside0.mk (below_step (by repeat (first | (with_reducible first | exact HB.out | apply below_alloc | apply pw_below_drewN | apply below_drew1) | exact HB.out)) hb); clear HB; have HB := n0_; clear n0_; (try clear hb); (try clear hb2); (try clear hk); (try clear hi)) | ((with_reducible refine gate_dst (N := 4) rfl ?_); (try (refine gate_guard (by rfl) ?_; dsimp only)); refine box_event ?hg (N := 4) ?hd (cs := #[.int .i64 0, .int .i64 0, .int .i64 0, .int .i64 0, .int .i64 0, .int .i64 0]) (t := 27) ?hr ?_; (case hd => rfl); (case hg => rfl); (case hr => first | (go_simp; done) | (go_simp; rfl)); intro gb266 hg w19 hbox hb; have n0_ := Aside0.mk (below_step (by repeat (first | (with_reducible first | exact HB.out | apply below_alloc | apply pw_below_drewN | apply below_drew1) | exact HB.out)) hb); have n1_ := Aside0.mk (hbox); have n2_ := Aside0.mk ((by rw [hg]; exact (below_size (by repeat (first | (with_reducible first | exact HB.out | apply below_alloc | apply pw_below_drewN | apply below_drew1) | exact HB.out))) : w.heap.size ≤ gb266)); have n3_ := Aside0.mk ((by rw [hg]; exact (below_size (by repeat (first | (with_reducible first | exact HB.out | apply below_alloc | apply pw_below_drewN | apply below_drew1) | exact HB.out))) : w.heap.size ≤ gb266)); clear HB; have HB := n0_; have BK266 := n1_; have GW266 := n2_; have GE266 := n3_; clear n0_ n1_ n2_ n3_; clear hb hbox hg; have hcz20_0 : w19.cell? ⟨gb266, 0, none⟩ = some (.int .i64 0) := (blk_cell BK266.out 0).trans rfl; have hcz20_1 : w19.cell? ⟨gb266, 1, none⟩ = some (.int .i64 0) := (blk_cell BK266.out 1).trans rfl; have hcz20_2 : w19.cell? ⟨gb266, 2, none⟩ = some (.int .i64 0) := (blk_cell BK266.out 2).trans rfl; have hcz20_3 : w19.cell? ⟨gb266, 3, none⟩ = some (.int .i64 0) := (blk_cell BK266.out 3).trans rfl; have hcz20_4 : w19.cell? ⟨gb266, 4, none⟩ = some (.int .i64 0) := (blk_cell BK266.out 4).trans rfl; have hcz20_5 : w19.cell? ⟨gb266, 5, none⟩ = some (.int .i64 0) := (blk_cell BK266.out 5).trans rfl; have hfz20_0 := blk_frozen BK266.out 0; have hfz20_1 := blk_frozen BK266.out 1; have hfz20_2 := blk_frozen BK266.out 2; have hfz20_3 := blk_frozen BK266.out 3; have hfz20_4 := blk_frozen BK266.out 4; have hfz20_5 := blk_frozen BK266.out 5) | ((with_reducible refine gate_callee (f := 26) rfl ?_); refine goesL_ (some 24) rfl rfl Try.func26 (by kernel_rfl) rfl #[.slice A0 l0.length c0] rfl (by (try simp only [List.map_toArray, List.map_cons, List.map_nil]); first | done | rfl | (simp only [List.length_drop, List.length_take]; rfl)) ?_; (with_reducible refine (wayfinderref04_Get.calls kj2 _ _ l0 t267 t268 t269 t270 t271 t272 t273 _ ?side1 ?side2 A8.out).mono ?_); (case side1 => exact Kd.C_below HR0.out (by repeat (first | (with_reducible first | exact HB.out | apply below_alloc | apply pw_below_drewN | apply below_drew1 | refine below_set ?_ GE266.out) | exact HB.out))); (case side2 => exact HC0.out); rintro e w21 ⟨rfl, hb⟩; refine ⟨_, rfl, ?_⟩; have n0_ := Aside0.mk (blk_below (g := gb266) (o := .cells #[.int .i64 t259, .int .i64 t260, .int .i64 t261, .int .i64 t262, .int .i64 t263, .int .i64 t264] 27 (0, 0)) (by (with_reducible repeat (first | refine blk_drewN ?_ _ | refine blk_drew ?_ | refine blk_alloc ?_ _)); refine blk_put (cs := #[.int .i64 t259, .int .i64 t260, .int .i64 t261, .int .i64 t262, .int .i64 t263, .int .i64 0]) ?_ 5 _ rfl; (with_reducible repeat (first | refine blk_drewN ?_ _ | refine blk_drew ?_ | refine blk_alloc ?_ _)); refine blk_put (cs := #[.int .i64 t259, .int .i64 t260, .int .i64 t261, .int .i64 t262, .int .i64 0, .int .i64 0]) ?_ 4 _ rfl; (with_reducible repeat (first | refine blk_drewN ?_ _ | refine blk_drew ?_ | refine blk_alloc ?_ _)); refine blk_put (cs := #[.int .i64 t259, .int .i64 t260, .int .i64 t261, .int .i64 0, .int .i64 0, .int .i64 0]) ?_ 3 _ rfl; (with_reducible repeat (first | refine blk_drewN ?_ _ | refine blk_drew ?_ | refine blk_alloc ?_ _)); refine blk_put (cs := #[.int .i64 t259, .int .i64 t260, .int .i64 0, .int .i64 0, .int .i64 0, .int .i64 0]) ?_ 2 _ rfl; (with_reducible repeat (first | refine blk_drewN ?_ _ | refine blk_drew ?_ | refine blk_alloc ?_ _)); refine blk_put (cs := #[.int .i64 t259, .int .i64 0, .int .i64 0, .int .i64 0, .int .i64 0, .int .i64 0]) ?_ 1 _ rfl; (with_reducible repeat (first | refine blk_drewN ?_ _ | refine blk_drew ?_ | refine blk_alloc ?_ _)); refine blk_put (cs := #[.int .i64 0, .int .i64 0, .int .i64 0, .int .i64 0, .int .i64 0, .int .i64 0]) ?_ 0 _ rfl; (with_reducible repeat (first | refine blk_drewN ?_ _ | refine blk_drew ?_ | refine blk_alloc ?_ _)); exact BK266.out) hb); have n1_ := Aside0.mk (below_step (by repeat (first | (with_reducible first | exact HB.out | apply below_alloc | apply pw_below_drewN | apply below_drew1 | refine below_set ?_ GE266.out) | exact HB.out)) hb); clear BK266; clear HB; have BK266 := n0_; have HB := n1_; clear n0_ n1_; (try clear hb); (try clear hb2); (try clear hk); (try clear hi)) | ((with_reducible refine gate_dst (N := 6) rfl ?_); (try (refine gate_guard (by rfl) ?_; dsimp only)); refine box_event ?hg (N := 6) ?hd (cs := #[.int .i64 0, .int .i64 0, .int .i64 0, .int .i64 0, .int .i64 0, .int .i64 0]) (t := 27) ?hr ?_; (case hd => rfl); (case hg => rfl); (case hr => first | (go_simp; done) | (go_simp; rfl)); intro gb274 hg w22 hbox hb; have n0_ := Aside0.mk (blk_below (g := gb266) (o := .cells #[.int .i64 t259, .int .i64 t260, .int .i64 t261, .int .i64 t262, .int .i64 t263, .int .i64 t264] 27 (0, 0)) (by (with_reducible repeat (first | refine blk_drewN ?_ _ | refine blk_drew ?_ | refine blk_alloc ?_ _)); exact BK266.out) hb); have n1_ := Aside0.mk (below_step (by repeat (first | (with_reducible first | exact HB.out | apply below_alloc | apply pw_below_drewN | apply below_drew1 | refine below_set ?_ GE266.out) | exact HB.out)) hb); have n2_ := Aside0.mk (hbox); have n3_ := Aside0.mk ((by rw [hg]; exact (below_size (by repeat (first | (with_reducible first | exact HB.out | apply below_alloc | apply pw_below_drewN | apply below_drew1 | refine below_set ?_ GE266.out) | exact HB.out))) : w.heap.size ≤ gb274)); have n4_ := Aside0.mk ((by rw [hg]; exact (below_size (by repeat (first | (with_reducible first | exact HB.out | apply below_alloc | apply pw_below_drewN | apply below_drew1 | refine below_set ?_ GE266.out) | exact HB.out))) : w.heap.size ≤ gb274)); have n5_ := Aside0.mk ((by rw [hg]; exact Nat.ne_of_lt (blk_lt (g := gb266) (o := .cells #[.int .i64 t259, .int .i64 t260, .int .i64 t261, .int .i64 t262, .int .i64 t263, .int .i64 t264] 27 (0, 0)) (by (with_reducible repeat (first | refine blk_drewN ?_ _ | refine blk_drew ?_ | refine blk_alloc ?_ _)); exact BK266.out)) : gb266 ≠ gb274)); have n6_ := Aside0.mk ((by rw [hg]; exact Nat.ne_of_gt (blk_lt (g := gb266) (o := .cells #[.int .i64 t259, .int .i64 t260, .int .i64 t261, .int .i64 t262, .int .i64 t263, .int .i64 t264] 27 (0, 0)) (by (with_reducible repeat (first | refine blk_drewN ?_ _ | refine blk_drew ?_ | refine blk_alloc ?_ _)); exact BK266.out)) : gb274 ≠ gb266)); clear BK266; clear HB; have BK266 := n0_; have HB := n1_; have BK274 := n2_; have GW274 := n3_; have GE274 := n4_; have NB266_274 := n5_; have NB274_266 := n6_; clear n0_ n1_ n2_ n3_ n4_ n5_ n6_; clear hb hbox hg; have hnb23 := NB274_266.out; have hnc23 := NB266_274.out; have hcz24_0 : w22.cell? ⟨gb274, 0, none⟩ = some (.int .i64 0) := (blk_cell BK274.out 0).trans rfl; have hcz24_1 : w22.cell? ⟨gb274, 1, none⟩ = some (.int .i64 0) := (blk_cell BK274.out 1).trans rfl; have hcz24_2 : w22.cell? ⟨gb274, 2, none⟩ = some (.int .i64 0) := (blk_cell BK274.out 2).trans rfl; have hcz24_3 : w22.cell? ⟨gb274, 3, none⟩ = some (.int .i64 0) := (blk_cell BK274.out 3).trans rfl; have hcz24_4 : w22.cell? ⟨gb274, 4, none⟩ = some (.int .i64 0) := (blk_cell BK274.out 4).trans rfl; have hcz24_5 : w22.cell? ⟨gb274, 5, none⟩ = some (.int .i64 0) := (blk_cell BK274.out 5).trans rfl; have hfz24_0 := blk_frozen BK274.out 0; have hfz24_1 := blk_frozen BK274.out 1; have hfz24_2 := blk_frozen BK274.out 2; have hfz24_3 := blk_frozen BK274.out 3; have hfz24_4 := blk_frozen BK274.out 4; have hfz24_5 := blk_frozen BK274.out 5; have hcz25_0 : w22.cell? ⟨gb266, 0, none⟩ = some (.int .i64 t259) := (blk_cell BK266.out 0).trans rfl; have hcz25_1 : w22.cell? ⟨gb266, 1, none⟩ = some (.int .i64 t260) := (blk_cell BK266.out 1).trans rfl; have hcz25_2 : w22.cell? ⟨gb266, 2, none⟩ = some (.int .i64 t261) := (blk_cell BK266.out 2).trans rfl; have hcz25_3 : w22.cell? ⟨gb266, 3, none⟩ = some (.int .i64 t262) := (blk_cell BK266.out 3).trans rfl; have hcz25_4 : w22.cell? ⟨gb266, 4, none⟩ = some (.int .i64 t263) := (blk_cell BK266.out 4).trans rfl; have hcz25_5 : w22.cell? ⟨gb266, 5, none⟩ = some (.int .i64 t264) := (blk_cell BK266.out 5).trans rfl; have hfz25_0 := blk_frozen BK266.out 0; have hfz25_1 := blk_frozen BK266.out 1; have hfz25_2 := blk_frozen BK266.out 2; have hfz25_3 := blk_frozen BK266.out 3; have hfz25_4 := blk_frozen BK266.out 4; have hfz25_5 := blk_frozen BK266.out 5))
          go_ret
          exact ⟨by first | rfl | (simp [errW_none, errW_some] <;> rfl) | (simp [*, errW_none, errW_some] <;> rfl), by repeat (first | (with_reducible first | exact HB.out | apply below_alloc | apply pw_below_drewN | apply below_drew1 | refine below_set ?_ GE266.out | refine below_set ?_ GE274.out) | exact HB.out)⟩

/-- THE ONE PURE STATEMENT of wayfinderlaw04_RuleGets: yours. -/
def wayfinderlaw04_RuleGets.Pure : Prop := ∀ (l0 : List Int), l0.length ≤ maxLen → l0.length * 1 ≤ 140737488351232 → (∀ x ∈ l0, (Lit.int .u8 x).wf = true) → ∃ k, wayfinderlaw04_RuleGets.f k l0 = some true
theorem wayfinderlaw04_RuleGets.walk (P : wayfinderlaw04_RuleGets.Pure) (a0 : Option Addr) (len0 cap0 : Nat) (z0 : List Int) (w : World) (w0 : (a0 = none ∧ len0 = 0 ∧ cap0 = 0 ∧ z0 = []) ∨ ∃ x, a0 = some x ∧ len0 ≤ cap0 ∧ cap0 ≤ maxLen ∧ z0.length = cap0 ∧ (∀ i, i < z0.length → w.cell? (x.add i) = some (.int .u8 (z0.getD i 0))) ∧ ∀ n ∈ z0, (Lit.int .u8 n).wf = true) (y0 : len0 * 1 ≤ 140737488351232) :
    Calls Try.prog 8 #[.slice a0 len0 cap0] w fun e w' => e = .returned (.bool true) ∧ Below w.heap.size w w' := by
  obtain ⟨l0, rfl, hr0, hm0, hw0, hc0⟩ := ReadsInt.ofRowC w0
  obtain ⟨k, h⟩ := P l0 hm0 y0 hw0
  refine (wayfinderlaw04_RuleGets.calls k _ _ l0 true w (Kd.C_of_reads (d := (0 : Int)) (h1 := fun _ => rfl) hr0) hc0 h).mono ?_
  rintro e w' ⟨rfl, hd⟩
  exact ⟨rfl, hd⟩

end Go.Proofs.Ytjnbnjlkljpbeaa.All
