/- Contracts of Go functions that this seat comes to, each with a plain function that tells its answers; conditions: those that each contract names. Written by a program of this session (wip/print) over the print words. -/
import Derived.Test.YtdmajldpebooeaaDoorQ5Allx0
import Derived.Test.YtdmajldpebooeaaDoorQ5Allx8
import Derived.Test.YtdmajldpebooeaaDoorQ5Allx18
namespace Go.Proofs.YtdmajldpebooeaaDoor.All
open Go.RowKit Go.Proofs.YtdmajldpebooeaaDoorW.PrintWords Go.Proofs.YtdmajldpebooeaaDoorW.PrintLast Go.Proofs.YtdmajldpebooeaaDoorW.PrintMore
attribute [local go_sem] max2_int min2_int max_two min_two max_three min_three max_four min_four
set_option linter.unusedVariables false
set_option linter.unusedSimpArgs false
def wayfinderref04_Get.f (k : Nat) (l0 : List Int) : Option (Int × Int × Int × Int × Int × Int × Int) := (wayfinderref02_GetAll.f k l0 (([4, 1, 1, 1, 1, 1] : List Int))).bind fun bt291 => (if bt291.2.2 = 0 then (if 0 < (bt291.1.length : Int) then (if 1 < (bt291.1.length : Int) then (if 2 < (bt291.1.length : Int) then (if 3 < (bt291.1.length : Int) then (if 4 < (bt291.1.length : Int) then (if 5 < (bt291.1.length : Int) then ((wayfinderref04_May.f k (rd bt291.1 0) (rd bt291.1 1) (wrap64 ((rd bt291.1 2) - 1)) (rd bt291.1 3) (rd bt291.1 4) (rd bt291.1 5)).bind fun t303 => (if t303 = true then (some (rd bt291.1 0, rd bt291.1 1, wrap64 ((rd bt291.1 2) - 1), rd bt291.1 3, rd bt291.1 4, rd bt291.1 5, 0)) else (some (0, 0, 0, 0, 0, 0, 2)))) else (none)) else (none)) else (none)) else (none)) else (none)) else (none)) else (some (0, 0, 0, 0, 0, 0, bt291.2.2)))
theorem wayfinderref04_Get.mono : ∀ a0 k, LeO (wayfinderref04_Get.f k a0) (wayfinderref04_Get.f (k + 1) a0) := by
 intro a0 k
 unfold wayfinderref04_Get.f
 repeat' first
   | (with_reducible exact wayfinderref02_GetAll.mono _ _ _)
   | (with_reducible exact wayfinderref04_May.mono _ _ _ _ _ _ _)
   | (with_reducible exact LeO.refl _)
   | (with_reducible exact LeO.none _)
   | (with_reducible refine LeO.ite ?_ ?_)
   | (with_reducible refine LeO.bind ?_ (fun _ => ?_))
   | exact wayfinderref02_GetAll.mono _ _ _
   | exact wayfinderref04_May.mono _ _ _ _ _ _ _
   | exact LeO.none _
   | refine LeO.ite ?_ ?_
   | refine LeO.bind ?_ (fun _ => ?_)
def wayfinderref04_Get.T4 : Bool × List (List Nat × List Nat) := (true, [([], []), ([0], [0]), ([1], [1]), ([], []), ([3], [3]), ([4], [4]), ([2, 5], [2, 5]), ([], []), ([7], [7]), ([8], [8]), ([9], [9]), ([], []), ([11], [11]), ([12], [12]), ([], []), ([14], [14]), ([15], [15]), ([], []), ([17], [17]), ([18], [18]), ([16, 19], [16, 19]), ([6, 10, 13, 20], [6, 10, 13, 20]), ([], []), ([22, 21, 0, 1, 2, 3, 4, 5, 6, 7, 8, 9, 10, 11, 12, 13, 14, 15, 16, 17, 18, 19, 20, 21, 22], [21, 22])])
def wayfinderref04_Get.B4 : List Nat := [0, 1, 3, 0, 8, 24, 63, 0, 128, 384, 896, 0, 2048, 6144, 0, 16384, 49152, 0, 131072, 393216, 1032192, 2097151, 0, 8388607]
theorem wayfinderref04_Get.tab4 : rtab .any (opsOf Tryd.f26 4) = wayfinderref04_Get.T4 := by kernel_rfl
theorem wayfinderref04_Get.bits4 : waitsOk wayfinderref04_Get.T4.2 wayfinderref04_Get.B4 = true := by kernel_rfl
set_option maxHeartbeats 8000000 in
set_option maxRecDepth 100000 in
theorem wayfinderref04_Get.calls (k : Nat) (A0 : Option Addr) (c0 : Nat) (l0 : List Int) (r1 : Int) (r2 : Int) (r3 : Int) (r4 : Int) (r5 : Int) (r6 : Int) (r7 : Int) (w : World) (hr0 : Kd.C (Kd.int .u8) w A0 l0.length l0) (hc0 : l0.length ≤ c0) (h : wayfinderref04_Get.f k l0 = some (r1, r2, r3, r4, r5, r6, r7)) :
  Calls Tryd.prog 26 #[.slice A0 l0.length c0] w fun e w' => e = .returned (.tuple #[.agg #[.int .i64 r1, .int .i64 r2, .int .i64 r3, .int .i64 r4, .int .i64 r5, .int .i64 r6], .int .i64 r7]) ∧ Below w.heap.size w w' := by
 have hu27 := Tryd.underlying27
 have hu23 := Tryd.underlying23
 have hu25 := Tryd.underlying25
 have HR0 := Aside0.mk hr0
 have HC0 := Aside0.mk hc0
 clear hr0 hc0
 have HB := Aside0.mk (Below.refl w.heap.size w)
 have H : ((wayfinderref02_GetAll.f k l0 (([4, 1, 1, 1, 1, 1] : List Int))).bind fun bt291 => (if bt291.2.2 = 0 then (if 0 < (bt291.1.length : Int) then (if 1 < (bt291.1.length : Int) then (if 2 < (bt291.1.length : Int) then (if 3 < (bt291.1.length : Int) then (if 4 < (bt291.1.length : Int) then (if 5 < (bt291.1.length : Int) then ((wayfinderref04_May.f k (rd bt291.1 0) (rd bt291.1 1) (wrap64 ((rd bt291.1 2) - 1)) (rd bt291.1 3) (rd bt291.1 4) (rd bt291.1 5)).bind fun t303 => (if t303 = true then (some (rd bt291.1 0, rd bt291.1 1, wrap64 ((rd bt291.1 2) - 1), rd bt291.1 3, rd bt291.1 4, rd bt291.1 5, 0)) else (some (0, 0, 0, 0, 0, 0, 2)))) else (none)) else (none)) else (none)) else (none)) else (none)) else (none)) else (some (0, 0, 0, 0, 0, 0, bt291.2.2)))) = some (r1, r2, r3, r4, r5, r6, r7) := h
 clear h
 obtain ⟨y288, hy288⟩ : ∃ y_ : List Int, y_ = (([4, 1, 1, 1, 1, 1] : List Int)) := ⟨_, rfl⟩
 replace H : ((wayfinderref02_GetAll.f k l0 y288).bind fun bt291 => (if bt291.2.2 = 0 then (if 0 < (bt291.1.length : Int) then (if 1 < (bt291.1.length : Int) then (if 2 < (bt291.1.length : Int) then (if 3 < (bt291.1.length : Int) then (if 4 < (bt291.1.length : Int) then (if 5 < (bt291.1.length : Int) then ((wayfinderref04_May.f k (rd bt291.1 0) (rd bt291.1 1) (wrap64 ((rd bt291.1 2) - 1)) (rd bt291.1 3) (rd bt291.1 4) (rd bt291.1 5)).bind fun t303 => (if t303 = true then (some (rd bt291.1 0, rd bt291.1 1, wrap64 ((rd bt291.1 2) - 1), rd bt291.1 3, rd bt291.1 4, rd bt291.1 5, 0)) else (some (0, 0, 0, 0, 0, 0, 2)))) else (none)) else (none)) else (none)) else (none)) else (none)) else (none)) else (some (0, 0, 0, 0, 0, 0, bt291.2.2)))) = some (r1, r2, r3, r4, r5, r6, r7) := by first | (rw [hy288]; with_reducible exact H) | (have H2_ := (Option.bind_some _ _).symm.trans H; rw [hy288]; with_reducible exact H2_) | (have H2_ := (Option.bind_some _ _).symm.trans H; with_reducible exact H2_) | with_reducible exact H | (rw [hy288]; exact H) | exact H
 have Ny288 := Aside0.mk hy288
 clear hy288
 replace H := Option.bind_eq_some_iff.mp H
 obtain ⟨⟨t291, t292, t293⟩, A20, H⟩ := H
 replace H : (if t293 = 0 then (if 0 < (t291.length : Int) then (if 1 < (t291.length : Int) then (if 2 < (t291.length : Int) then (if 3 < (t291.length : Int) then (if 4 < (t291.length : Int) then (if 5 < (t291.length : Int) then ((wayfinderref04_May.f k (rd t291 0) (rd t291 1) (wrap64 ((rd t291 2) - 1)) (rd t291 3) (rd t291 4) (rd t291 5)).bind fun t303 => (if t303 = true then (some (rd t291 0, rd t291 1, wrap64 ((rd t291 2) - 1), rd t291 3, rd t291 4, rd t291 5, 0)) else (some (0, 0, 0, 0, 0, 0, 2)))) else (none)) else (none)) else (none)) else (none)) else (none)) else (none)) else (some (0, 0, 0, 0, 0, 0, t293))) = some (r1, r2, r3, r4, r5, r6, r7) := H
 have A2 := Aside0.mk A20
 clear A20
 by_cases c3 : t293 = 0
 ·rw [if_pos c3] at H
  have c3b0 : (t293 == 0) = true := beq_iff_eq.mpr c3
  have c3b1 : (t293 != 0) = false := bne_eq_false_iff_eq.mpr c3
  clear c3
  by_cases c4 : 0 < (t291.length : Int)
  ·rw [if_pos c4] at H
   have c4b0 : decide (0 < (t291.length : Int)) = true := decide_eq_true c4
   have c4b1 : decide (0 < t291.length) = true := decide_eq_true (by omega)
   clear c4
   by_cases c5 : 1 < (t291.length : Int)
   ·rw [if_pos c5] at H
    have c5b0 : decide (1 < (t291.length : Int)) = true := decide_eq_true c5
    have c5b1 : decide (1 < t291.length) = true := decide_eq_true (by omega)
    clear c5
    by_cases c6 : 2 < (t291.length : Int)
    ·rw [if_pos c6] at H
     have c6b0 : decide (2 < (t291.length : Int)) = true := decide_eq_true c6
     have c6b1 : decide (2 < t291.length) = true := decide_eq_true (by omega)
     clear c6
     by_cases c7 : 3 < (t291.length : Int)
     ·rw [if_pos c7] at H
      have c7b0 : decide (3 < (t291.length : Int)) = true := decide_eq_true c7
      have c7b1 : decide (3 < t291.length) = true := decide_eq_true (by omega)
      clear c7
      by_cases c8 : 4 < (t291.length : Int)
      ·rw [if_pos c8] at H
       have c8b0 : decide (4 < (t291.length : Int)) = true := decide_eq_true c8
       have c8b1 : decide (4 < t291.length) = true := decide_eq_true (by omega)
       clear c8
       by_cases c9 : 5 < (t291.length : Int)
       ·rw [if_pos c9] at H
        have c9b0 : decide (5 < (t291.length : Int)) = true := decide_eq_true c9
        have c9b1 : decide (5 < t291.length) = true := decide_eq_true (by omega)
        clear c9
        replace H := Option.bind_eq_some_iff.mp H
        obtain ⟨t303, A100, H⟩ := H
        replace H : (if t303 = true then (some (rd t291 0, rd t291 1, wrap64 ((rd t291 2) - 1), rd t291 3, rd t291 4, rd t291 5, 0)) else (some (0, 0, 0, 0, 0, 0, 2))) = some (r1, r2, r3, r4, r5, r6, r7) := H
        have A10 := Aside0.mk A100
        clear A100
        by_cases c11 : t303 = true
        ·subst c11
         have H1 : (some (rd t291 0, rd t291 1, wrap64 ((rd t291 2) - 1), rd t291 3, rd t291 4, rd t291 5, 0)) = some (r1, r2, r3, r4, r5, r6, r7) := by rw [if_pos rfl] at H; exact H
         clear H
         have H := H1
         clear H1
         simp only [Option.some.injEq, Prod.mk.injEq] at H
         obtain ⟨rfl, rfl, rfl, rfl, rfl, rfl, rfl⟩ := H
         go_enter Tryd.func26, Tryd.ntmps26
         try go_wp2_with (first | ((with_reducible refine qqx (N := 2) rfl ?_); refine box_event ?hg (N := 2) ?hd (cs := #[.int .i64 0, .int .i64 0, .int .i64 0, .int .i64 0, .int .i64 0, .int .i64 0]) (t := 27) ?hr ?_; (case hd => rfl); (case hg => rfl); (case hr => first | (go_simp; done) | (go_simp; rfl)); intro gb287 hg w12 hbox hb; have n0_ := Aside0.mk (qqj (by repeat (first | (with_reducible first | exact HB.out | apply qqg | apply qqa | apply qqf) | exact HB.out)) hb); have n1_ := Aside0.mk (hbox); have n2_ := Aside0.mk ((by rw [hg]; exact (qqk (by repeat (first | (with_reducible first | exact HB.out | apply qqg | apply qqa | apply qqf) | exact HB.out))) : w.heap.size ≤ gb287)); have n3_ := Aside0.mk ((by rw [hg]; exact (qqk (by repeat (first | (with_reducible first | exact HB.out | apply qqg | apply qqa | apply qqf) | exact HB.out))) : w.heap.size ≤ gb287)); clear HB; have HB := n0_; have BK287 := n1_; have GW287 := n2_; have GE287 := n3_; clear n0_ n1_ n2_ n3_; clear hb hbox hg) | ((with_reducible refine qqx (N := 11) rfl ?_); refine Kd.R_lit (Kd.int .i64) _ 3 ?hg (N := 11) ?hd (xs := ([4, 1, 1, 1, 1, 1] : List Int)) (inner := [.int .i64 4, .int .i64 1, .int .i64 1, .int .i64 1, .int .i64 1, .int .i64 1]) (ok := fun _ => True) (okp := fun _ => True) ?hr ?hp (fun _ hk => hk) trivial (Below.refl _ _) (Nat.le_refl _) (by simp) ?_; (case hd => rfl); (case hg => rfl); (case hr => first | (go_simp; done) | (go_simp; rfl)); (case hp => exact (Reps.one (show Kd.M (Kd.int .i64) _ _ _ 4 [.int .i64 4] from rfl) (Reps.one (show Kd.M (Kd.int .i64) _ _ _ 1 [.int .i64 1] from rfl) (Reps.one (show Kd.M (Kd.int .i64) _ _ _ 1 [.int .i64 1] from rfl) (Reps.one (show Kd.M (Kd.int .i64) _ _ _ 1 [.int .i64 1] from rfl) (Reps.one (show Kd.M (Kd.int .i64) _ _ _ 1 [.int .i64 1] from rfl) (Reps.one (show Kd.M (Kd.int .i64) _ _ _ 1 [.int .i64 1] from rfl) (Reps.none _ _)))))))); intro v289 w13 ho14 hb hg_ hnew_; clear hg_ hnew_; (first | rw [← Ny288.out] at ho14 | (simp only [Int.reduceToNat] at ho14; rw [← Ny288.out] at ho14)); have n0_ := Aside0.mk (Kd.R_lower ho14 (qqk (by repeat (first | (with_reducible first | exact HB.out | apply qqg | apply qqa | apply qqf | refine qqh ?_ GE287.out) | exact HB.out)))); have n1_ := Aside0.mk (qqm (g := gb287) (o := .cells #[.int .i64 0, .int .i64 0, .int .i64 0, .int .i64 0, .int .i64 0, .int .i64 0] 27 (0, 0)) (by (with_reducible repeat (first | refine qqc ?_ _ | refine qqe ?_ | refine qqd ?_ _)); exact BK287.out) hb); have n2_ := Aside0.mk (qqj (by repeat (first | (with_reducible first | exact HB.out | apply qqg | apply qqa | apply qqf | refine qqh ?_ GE287.out) | exact HB.out)) hb); clear BK287; clear HB; have HO290 := n0_; have BK287 := n1_; have HB := n2_; clear n0_ n1_ n2_; clear hb ho14; obtain ⟨Ao15, co15, eo15⟩ := Kd.R_slice HO290.out; subst eo15) | ((with_reducible refine qqv (f := 25) rfl ?_); refine goesL_ (some 12) rfl rfl Tryd.func25 (by kernel_rfl) rfl #[.slice A0 l0.length c0, .slice Ao15 y288.length co15] rfl (by (try simp only [List.map_toArray, List.map_cons, List.map_nil]); first | done | rfl | (simp only [List.length_drop, List.length_take]; rfl)) ?_; (with_reducible refine (wayfinderref02_GetAll.calls k _ _ l0 _ _ y288 t291 t292 t293 _ ?side1 ?side2 ?side3 ?side4 A2.out).mono ?_); (case side1 => repeat (first | exact (Kd.C_below HR0.out HB.out) | (with_reducible refine Kd.C_alloc ?_ _) | (with_reducible refine Kd.C_drewN ?_ _) | (with_reducible refine Kd.C_drew ?_))); (case side2 => exact HC0.out); (case side3 => repeat (first | exact (Kd.R_reads' HO290.out).2.2 | (with_reducible refine Kd.C_alloc ?_ _) | (with_reducible refine Kd.C_drewN ?_ _) | (with_reducible refine Kd.C_drew ?_))); (case side4 => exact (Kd.R_reads' HO290.out).2.1); rintro e w16 ⟨v294, rfl, ho0, hb⟩; refine ⟨_, rfl, ?_⟩; have n0_ := Aside0.mk (Kd.R_elder' (by (with_reducible repeat (first | apply Kd.R_alloc | apply Kd.R_drewN | apply Kd.R_drew)); exact HO290.out) (Kd.R_base ho0) hb); have n1_ := Aside0.mk (Kd.R_lower (Kd.R_new' ho0 (Kd.R_lt (by (with_reducible repeat (first | apply Kd.R_alloc | apply Kd.R_drewN | apply Kd.R_drew)); exact HO290.out))) (qqk (by repeat (first | (with_reducible first | exact HB.out | apply qqg | apply qqa | apply qqf | refine qqh ?_ GE287.out) | exact HB.out)))); have n2_ := Aside0.mk (qqm (g := gb287) (o := .cells #[.int .i64 0, .int .i64 0, .int .i64 0, .int .i64 0, .int .i64 0, .int .i64 0] 27 (0, 0)) (by (with_reducible repeat (first | refine qqc ?_ _ | refine qqe ?_ | refine qqd ?_ _)); exact BK287.out) hb); have n3_ := Aside0.mk (qqj (by repeat (first | (with_reducible first | exact HB.out | apply qqg | apply qqa | apply qqf | refine qqh ?_ GE287.out) | exact HB.out)) hb); clear HO290; clear BK287; clear HB; have HO290 := n0_; have HO295 := n1_; have BK287 := n2_; have HB := n3_; clear n0_ n1_ n2_ n3_; (try clear hb); (try clear hb2); (try clear hk); (try clear hi); (try clear ho0)))
         have n0_ := Aside0.mk (Kd.R_drew HO290.out)
         have n1_ := Aside0.mk (Kd.R_drew HO295.out)
         have n2_ := Aside0.mk (qqe BK287.out)
         have n3_ := Aside0.mk (qqf HB.out)
         clear HO290
         clear HO295
         clear BK287
         clear HB
         have HO290 := n0_
         have HO295 := n1_
         have BK287 := n2_
         have HB := n3_
         clear n0_ n1_ n2_ n3_
         obtain ⟨Ao18, co18, eo18⟩ := Kd.R_slice HO295.out
         (first | subst eo18 | (injection eo18 with f1_ f2_ f3_; have f4_ := f1_.symm; have f5_ := f3_.symm; clear f1_ f2_ f3_; subst f4_; subst f5_))
         have p296 : 0 ≤ (0 : Int) := (by omega)
         have q296 : 0 < (t291.length : Int) := of_decide_eq_true (by first | (with_reducible assumption) | assumption)
         obtain ⟨ad296, e296, hx296_0⟩ := Kd.at_int (Kd.R_reads' HO295.out).2.2 0 p296 q296
         cases e296
         have qi296 : (0 < t291.length) = True := eq_true (by omega)
         (try rw [show ((0 : Int)).toNat = 0 from rfl] at hx296_0)
         (try rw [Addr.add_zero'] at hx296_0)
         replace p296 := eq_true p296
         replace q296 := eq_true q296
         have p297 : 0 ≤ (1 : Int) := (by omega)
         have q297 : 1 < (t291.length : Int) := of_decide_eq_true (by first | (with_reducible assumption) | assumption)
         obtain ⟨ad297, e297, hx297_0⟩ := Kd.at_int (Kd.R_reads' HO295.out).2.2 1 p297 q297
         obtain rfl : ad296 = ad297 := (by injection e297)
         (try simp only [show (1 : Int).toNat = 1 from rfl, Nat.reduceMul, Nat.reduceEqDiff, Go.Addr.add, ↓reduceIte] at hx297_0)
         have qi297 : (1 < t291.length) = True := eq_true (by omega)
         (try rw [show ((1 : Int)).toNat = 1 from rfl] at hx297_0)
         replace p297 := eq_true p297
         replace q297 := eq_true q297
         have p298 : 0 ≤ (2 : Int) := (by omega)
         have q298 : 2 < (t291.length : Int) := of_decide_eq_true (by first | (with_reducible assumption) | assumption)
         obtain ⟨ad298, e298, hx298_0⟩ := Kd.at_int (Kd.R_reads' HO295.out).2.2 2 p298 q298
         obtain rfl : ad296 = ad298 := (by injection e298)
         (try simp only [show (2 : Int).toNat = 2 from rfl, Nat.reduceMul, Nat.reduceEqDiff, Go.Addr.add, ↓reduceIte] at hx298_0)
         have qi298 : (2 < t291.length) = True := eq_true (by omega)
         (try rw [show ((2 : Int)).toNat = 2 from rfl] at hx298_0)
         replace p298 := eq_true p298
         replace q298 := eq_true q298
         have p299 : 0 ≤ (3 : Int) := (by omega)
         have q299 : 3 < (t291.length : Int) := of_decide_eq_true (by first | (with_reducible assumption) | assumption)
         obtain ⟨ad299, e299, hx299_0⟩ := Kd.at_int (Kd.R_reads' HO295.out).2.2 3 p299 q299
         obtain rfl : ad296 = ad299 := (by injection e299)
         (try simp only [show (3 : Int).toNat = 3 from rfl, Nat.reduceMul, Nat.reduceEqDiff, Go.Addr.add, ↓reduceIte] at hx299_0)
         have qi299 : (3 < t291.length) = True := eq_true (by omega)
         (try rw [show ((3 : Int)).toNat = 3 from rfl] at hx299_0)
         replace p299 := eq_true p299
         replace q299 := eq_true q299
         have p300 : 0 ≤ (4 : Int) := (by omega)
         have q300 : 4 < (t291.length : Int) := of_decide_eq_true (by first | (with_reducible assumption) | assumption)
         obtain ⟨ad300, e300, hx300_0⟩ := Kd.at_int (Kd.R_reads' HO295.out).2.2 4 p300 q300
         obtain rfl : ad296 = ad300 := (by injection e300)
         (try simp only [show (4 : Int).toNat = 4 from rfl, Nat.reduceMul, Nat.reduceEqDiff, Go.Addr.add, ↓reduceIte] at hx300_0)
         have qi300 : (4 < t291.length) = True := eq_true (by omega)
         (try rw [show ((4 : Int)).toNat = 4 from rfl] at hx300_0)
         replace p300 := eq_true p300
         replace q300 := eq_true q300
         have p301 : 0 ≤ (5 : Int) := (by omega)
         have q301 : 5 < (t291.length : Int) := of_decide_eq_true (by first | (with_reducible assumption) | assumption)
         obtain ⟨ad301, e301, hx301_0⟩ := Kd.at_int (Kd.R_reads' HO295.out).2.2 5 p301 q301
         obtain rfl : ad296 = ad301 := (by injection e301)
         (try simp only [show (5 : Int).toNat = 5 from rfl, Nat.reduceMul, Nat.reduceEqDiff, Go.Addr.add, ↓reduceIte] at hx301_0)
         have qi301 : (5 < t291.length) = True := eq_true (by omega)
         (try rw [show ((5 : Int)).toNat = 5 from rfl] at hx301_0)
         replace p301 := eq_true p301
         replace q301 := eq_true q301
         refine start_ (n := 24) (S := fun w' => w'.cell? ad296 = some (.int .i64 (rd t291 0)) ∧ w'.cell? ⟨ad296.block, ad296.off + 1, none⟩ = some (.int .i64 (rd t291 1)) ∧ w'.cell? ⟨ad296.block, ad296.off + 2, none⟩ = some (.int .i64 (rd t291 2)) ∧ w'.cell? ⟨ad296.block, ad296.off + 3, none⟩ = some (.int .i64 (rd t291 3)) ∧ w'.cell? ⟨ad296.block, ad296.off + 4, none⟩ = some (.int .i64 (rd t291 4)) ∧ w'.cell? ⟨ad296.block, ad296.off + 5, none⟩ = some (.int .i64 (rd t291 5))) (ds := []) #[false, false, false, false, false, false, false, false, false, false, false, false, false, false, false, false, false, false, false, false, false, false, false, false] (by kernel_rfl) rfl rfl ⟨hx296_0, hx297_0, hx298_0, hx299_0, hx300_0, hx301_0⟩ (fun hHeld => ?_); refine with_tabW wayfinderref04_Get.tab4 wayfinderref04_Get.bits4 (fun HT_ HW_ => ?_)
         generalize w16.drew = w17 at HO290 HO295 BK287 HB hx296_0 hx297_0 hx298_0 hx299_0 hx300_0 hx301_0 hHeld ⊢
         refine qqw (i := 0) (N := some 20) (v := ?_) (a' := ?_) #[true, false, false, false, false, false, false, false, false, false, false, false, false, false, false, false, false, false, false, false, false, false, false, false] rfl rfl (qqq HT_.out (by kernel_rfl)) (fun _ _ _ h => h) (Or.inl ⟨by rfl, ?_⟩) ?_ ?_
         rotate_left
         ·intro w'
          go_simp
          with_reducible rfl
         rotate_left
         ·simp only [Act.put, List.setIfInBounds_toArray, List.set_cons_zero, List.set_cons_succ, qqt, qqu]
          rfl
         refine qqw (i := 1) (N := some 21) (v := ?_) (a' := ?_) #[true, true, false, false, false, false, false, false, false, false, false, false, false, false, false, false, false, false, false, false, false, false, false, false] rfl rfl (qqq HT_.out (by kernel_rfl)) (fun _ _ _ h => h) (Or.inl ⟨by rfl, ?_⟩) ?_ ?_
         rotate_left
         ·intro w'
          go_simp
          with_reducible rfl
         rotate_left
         ·simp only [Act.put, List.setIfInBounds_toArray, List.set_cons_zero, List.set_cons_succ, qqt, qqu]
          rfl
         refine qqw (i := 3) (N := some 23) (v := ?_) (a' := ?_) #[true, true, false, true, false, false, false, false, false, false, false, false, false, false, false, false, false, false, false, false, false, false, false, false] rfl rfl (qqq HT_.out (by kernel_rfl)) (fun _ _ _ h => h) (Or.inl ⟨by rfl, ?_⟩) ?_ ?_
         rotate_left
         ·intro w'
          go_simp
          with_reducible rfl
         rotate_left
         ·simp only [Act.put, List.setIfInBounds_toArray, List.set_cons_zero, List.set_cons_succ, qqt, qqu]
          rfl
         refine qqw (i := 4) (N := some 24) (v := ?_) (a' := ?_) #[true, true, false, true, true, false, false, false, false, false, false, false, false, false, false, false, false, false, false, false, false, false, false, false] rfl rfl (qqq HT_.out (by kernel_rfl)) (fun _ _ _ h => h) (Or.inl ⟨by rfl, ?_⟩) ?_ ?_
         rotate_left
         ·intro w'
          go_simp
          with_reducible rfl
         rotate_left
         ·simp only [Act.put, List.setIfInBounds_toArray, List.set_cons_zero, List.set_cons_succ, qqt, qqu]
          rfl
         refine qqw (i := 7) (N := some 27) (v := ?_) (a' := ?_) #[true, true, false, true, true, false, false, true, false, false, false, false, false, false, false, false, false, false, false, false, false, false, false, false] rfl rfl (qqq HT_.out (by kernel_rfl)) (fun _ _ _ h => h) (Or.inl ⟨by rfl, ?_⟩) ?_ ?_
         rotate_left
         ·intro w'
          go_simp
          with_reducible rfl
         rotate_left
         ·simp only [Act.put, List.setIfInBounds_toArray, List.set_cons_zero, List.set_cons_succ, qqt, qqu]
          rfl
         refine qqw (i := 8) (N := some 28) (v := ?_) (a' := ?_) #[true, true, false, true, true, false, false, true, true, false, false, false, false, false, false, false, false, false, false, false, false, false, false, false] rfl rfl (qqq HT_.out (by kernel_rfl)) (fun _ _ _ h => h) (Or.inl ⟨by rfl, ?_⟩) ?_ ?_
         rotate_left
         ·intro w'
          go_simp
          with_reducible rfl
         rotate_left
         ·simp only [Act.put, List.setIfInBounds_toArray, List.set_cons_zero, List.set_cons_succ, qqt, qqu]
          rfl
         refine qqw (i := 11) (N := some 31) (v := ?_) (a' := ?_) #[true, true, false, true, true, false, false, true, true, false, false, true, false, false, false, false, false, false, false, false, false, false, false, false] rfl rfl (qqq HT_.out (by kernel_rfl)) (fun _ _ _ h => h) (Or.inl ⟨by rfl, ?_⟩) ?_ ?_
         rotate_left
         ·intro w'
          go_simp
          with_reducible rfl
         rotate_left
         ·simp only [Act.put, List.setIfInBounds_toArray, List.set_cons_zero, List.set_cons_succ, qqt, qqu]
          rfl
         refine qqw (i := 12) (N := some 32) (v := ?_) (a' := ?_) #[true, true, false, true, true, false, false, true, true, false, false, true, true, false, false, false, false, false, false, false, false, false, false, false] rfl rfl (qqq HT_.out (by kernel_rfl)) (fun _ _ _ h => h) (Or.inl ⟨by rfl, ?_⟩) ?_ ?_
         rotate_left
         ·intro w'
          go_simp
          with_reducible rfl
         rotate_left
         ·simp only [Act.put, List.setIfInBounds_toArray, List.set_cons_zero, List.set_cons_succ, qqt, qqu]
          rfl
         refine qqw (i := 14) (N := some 34) (v := ?_) (a' := ?_) #[true, true, false, true, true, false, false, true, true, false, false, true, true, false, true, false, false, false, false, false, false, false, false, false] rfl rfl (qqq HT_.out (by kernel_rfl)) (fun _ _ _ h => h) (Or.inl ⟨by rfl, ?_⟩) ?_ ?_
         rotate_left
         ·intro w'
          go_simp
          with_reducible rfl
         rotate_left
         ·simp only [Act.put, List.setIfInBounds_toArray, List.set_cons_zero, List.set_cons_succ, qqt, qqu]
          rfl
         refine qqw (i := 15) (N := some 35) (v := ?_) (a' := ?_) #[true, true, false, true, true, false, false, true, true, false, false, true, true, false, true, true, false, false, false, false, false, false, false, false] rfl rfl (qqq HT_.out (by kernel_rfl)) (fun _ _ _ h => h) (Or.inl ⟨by rfl, ?_⟩) ?_ ?_
         rotate_left
         ·intro w'
          go_simp
          with_reducible rfl
         rotate_left
         ·simp only [Act.put, List.setIfInBounds_toArray, List.set_cons_zero, List.set_cons_succ, qqt, qqu]
          rfl
         refine qqw (i := 17) (N := some 37) (v := ?_) (a' := ?_) #[true, true, false, true, true, false, false, true, true, false, false, true, true, false, true, true, false, true, false, false, false, false, false, false] rfl rfl (qqq HT_.out (by kernel_rfl)) (fun _ _ _ h => h) (Or.inl ⟨by rfl, ?_⟩) ?_ ?_
         rotate_left
         ·intro w'
          go_simp
          with_reducible rfl
         rotate_left
         ·simp only [Act.put, List.setIfInBounds_toArray, List.set_cons_zero, List.set_cons_succ, qqt, qqu]
          rfl
         refine qqw (i := 18) (N := some 38) (v := ?_) (a' := ?_) #[true, true, false, true, true, false, false, true, true, false, false, true, true, false, true, true, false, true, true, false, false, false, false, false] rfl rfl (qqq HT_.out (by kernel_rfl)) (fun _ _ _ h => h) (Or.inl ⟨by rfl, ?_⟩) ?_ ?_
         rotate_left
         ·intro w'
          go_simp
          with_reducible rfl
         rotate_left
         ·simp only [Act.put, List.setIfInBounds_toArray, List.set_cons_zero, List.set_cons_succ, qqt, qqu]
          rfl
         refine take_ (i := 2) (N := some 22) (v := ?_) (a' := ?_) #[true, true, true, true, true, false, false, true, true, false, false, true, true, false, true, true, false, true, true, false, false, false, false, false] rfl rfl (take_ofW HT_.out HW_.out (by kernel_rfl)) (fun _ _ _ h => h) (Or.inl ⟨by rfl, ?_⟩) hHeld ?_ ?_
         rotate_left
         ·rintro w' ⟨s0, s1, s2, s3, s4, s5⟩
          go_simp
          with_reducible rfl
         rotate_left
         ·simp only [Act.put, List.setIfInBounds_toArray, List.set_cons_zero, List.set_cons_succ, qqt, qqu]
          rfl
         refine take_ (i := 5) (N := some 25) (v := ?_) (a' := ?_) #[true, true, true, true, true, true, false, true, true, false, false, true, true, false, true, true, false, true, true, false, false, false, false, false] rfl rfl (take_ofW HT_.out HW_.out (by kernel_rfl)) (fun _ _ _ h => h) (Or.inl ⟨by rfl, ?_⟩) hHeld ?_ ?_
         rotate_left
         ·rintro w' ⟨s0, s1, s2, s3, s4, s5⟩
          go_simp
          with_reducible rfl
         rotate_left
         ·simp only [Act.put, List.setIfInBounds_toArray, List.set_cons_zero, List.set_cons_succ, qqt, qqu]
          rfl
         refine qqw (i := 6) (N := some 26) (v := ?_) (a' := ?_) #[true, true, true, true, true, true, true, true, true, false, false, true, true, false, true, true, false, true, true, false, false, false, false, false] rfl rfl (qqq HT_.out (by kernel_rfl)) (fun _ _ _ h => h) (Or.inl ⟨by rfl, ?_⟩) ?_ ?_
         rotate_left
         ·intro w'
          go_simp
          with_reducible rfl
         rotate_left
         ·simp only [Act.put, List.setIfInBounds_toArray, List.set_cons_zero, List.set_cons_succ, qqt, qqu]
          rfl
         refine take_ (i := 9) (N := some 29) (v := ?_) (a' := ?_) #[true, true, true, true, true, true, true, true, true, true, false, true, true, false, true, true, false, true, true, false, false, false, false, false] rfl rfl (take_ofW HT_.out HW_.out (by kernel_rfl)) (fun _ _ _ h => h) (Or.inl ⟨by rfl, ?_⟩) hHeld ?_ ?_
         rotate_left
         ·rintro w' ⟨s0, s1, s2, s3, s4, s5⟩
          go_simp
          with_reducible rfl
         rotate_left
         ·simp only [Act.put, List.setIfInBounds_toArray, List.set_cons_zero, List.set_cons_succ, qqt, qqu]
          rfl
         refine qqw (i := 10) (N := some 30) (v := ?_) (a' := ?_) #[true, true, true, true, true, true, true, true, true, true, true, true, true, false, true, true, false, true, true, false, false, false, false, false] rfl rfl (qqq HT_.out (by kernel_rfl)) (fun _ _ _ h => h) (Or.inl ⟨by rfl, ?_⟩) ?_ ?_
         rotate_left
         ·intro w'
          go_simp
          with_reducible rfl
         rotate_left
         ·simp only [Act.put, List.setIfInBounds_toArray, List.set_cons_zero, List.set_cons_succ, qqt, qqu]
          rfl
         refine take_ (i := 13) (N := some 33) (v := ?_) (a' := ?_) #[true, true, true, true, true, true, true, true, true, true, true, true, true, true, true, true, false, true, true, false, false, false, false, false] rfl rfl (take_ofW HT_.out HW_.out (by kernel_rfl)) (fun _ _ _ h => h) (Or.inl ⟨by rfl, ?_⟩) hHeld ?_ ?_
         rotate_left
         ·rintro w' ⟨s0, s1, s2, s3, s4, s5⟩
          go_simp
          with_reducible rfl
         rotate_left
         ·simp only [Act.put, List.setIfInBounds_toArray, List.set_cons_zero, List.set_cons_succ, qqt, qqu]
          rfl
         refine take_ (i := 16) (N := some 36) (v := ?_) (a' := ?_) #[true, true, true, true, true, true, true, true, true, true, true, true, true, true, true, true, true, true, true, false, false, false, false, false] rfl rfl (take_ofW HT_.out HW_.out (by kernel_rfl)) (fun _ _ _ h => h) (Or.inl ⟨by rfl, ?_⟩) hHeld ?_ ?_
         rotate_left
         ·rintro w' ⟨s0, s1, s2, s3, s4, s5⟩
          go_simp
          with_reducible rfl
         rotate_left
         ·simp only [Act.put, List.setIfInBounds_toArray, List.set_cons_zero, List.set_cons_succ, qqt, qqu]
          rfl
         refine take_ (i := 19) (N := some 39) (v := ?_) (a' := ?_) #[true, true, true, true, true, true, true, true, true, true, true, true, true, true, true, true, true, true, true, true, false, false, false, false] rfl rfl (take_ofW HT_.out HW_.out (by kernel_rfl)) (fun _ _ _ h => h) (Or.inl ⟨by rfl, ?_⟩) hHeld ?_ ?_
         rotate_left
         ·rintro w' ⟨s0, s1, s2, s3, s4, s5⟩
          go_simp
          with_reducible rfl
         rotate_left
         ·simp only [Act.put, List.setIfInBounds_toArray, List.set_cons_zero, List.set_cons_succ, qqt, qqu]
          rfl
         refine qqw (i := 20) (N := some 40) (v := ?_) (a' := ?_) #[true, true, true, true, true, true, true, true, true, true, true, true, true, true, true, true, true, true, true, true, true, false, false, false] rfl rfl (qqq HT_.out (by kernel_rfl)) (fun _ _ _ h => h) (Or.inl ⟨by rfl, ?_⟩) ?_ ?_
         rotate_left
         ·intro w'
          go_simp
          with_reducible rfl
         rotate_left
         ·simp only [Act.put, List.setIfInBounds_toArray, List.set_cons_zero, List.set_cons_succ, qqt, qqu]
          rfl
         refine qqw (i := 21) (N := some 41) (v := ?_) (a' := ?_) #[true, true, true, true, true, true, true, true, true, true, true, true, true, true, true, true, true, true, true, true, true, true, false, false] rfl rfl (qqq HT_.out (by kernel_rfl)) (fun _ _ _ h => h) (Or.inl ⟨by rfl, ?_⟩) ?_ ?_
         rotate_left
         ·intro w'
          go_simp
          with_reducible rfl
         rotate_left
         ·simp only [Act.put, List.setIfInBounds_toArray, List.set_cons_zero, List.set_cons_succ, qqt, qqu]
          rfl
         refine one_ (i := 22) (N := some 7) #[true, true, true, true, true, true, true, true, true, true, true, true, true, true, true, true, true, true, true, true, true, true, true, false] rfl rfl (one_of HT_.out (by kernel_rfl)) (by decide) (fun K hK => ?_)
         refine box_step ?hg (N := 7) ?hd (cs := #[.int .i64 0, .int .i64 0, .int .i64 0, .int .i64 0, .int .i64 0, .int .i64 0]) (t := 27) ?hr ?_; (case hd => rfl); (case hg => rfl); (case hr => first | (go_simp; done) | (go_simp; rfl))
         intro gb302 hg w19 hbox hb
         have HS0_ := (hb.cell (World.block_lt_of_cell? _ _ (hHeld.1))).trans (hHeld.1)
         have HS1_ := (hb.cell (World.block_lt_of_cell? _ _ (hHeld.2.1))).trans (hHeld.2.1)
         have HS2_ := (hb.cell (World.block_lt_of_cell? _ _ (hHeld.2.2.1))).trans (hHeld.2.2.1)
         have HS3_ := (hb.cell (World.block_lt_of_cell? _ _ (hHeld.2.2.2.1))).trans (hHeld.2.2.2.1)
         have HS4_ := (hb.cell (World.block_lt_of_cell? _ _ (hHeld.2.2.2.2.1))).trans (hHeld.2.2.2.2.1)
         have HS5_ := (hb.cell (World.block_lt_of_cell? _ _ (hHeld.2.2.2.2.2))).trans (hHeld.2.2.2.2.2)
         have n0_ := Aside0.mk (Kd.R_below (by (with_reducible repeat (first | apply Kd.R_alloc | apply Kd.R_drewN | apply Kd.R_drew)); exact HO290.out) hb)
         have n1_ := Aside0.mk (Kd.R_below (by (with_reducible repeat (first | apply Kd.R_alloc | apply Kd.R_drewN | apply Kd.R_drew)); exact HO295.out) hb)
         have n2_ := Aside0.mk (qqm (g := gb287) (o := .cells #[.int .i64 0, .int .i64 0, .int .i64 0, .int .i64 0, .int .i64 0, .int .i64 0] 27 (0, 0)) (by (with_reducible repeat (first | refine qqc ?_ _ | refine qqe ?_ | refine qqd ?_ _)); exact BK287.out) hb)
         have n3_ := Aside0.mk (qqj (by repeat (first | (with_reducible first | exact HB.out | apply qqg | apply qqa | apply qqf | refine qqh ?_ GE287.out) | exact HB.out)) hb)
         have n4_ := Aside0.mk (hbox)
         have n5_ := Aside0.mk ((by rw [hg]; exact (qqk (by repeat (first | (with_reducible first | exact HB.out | apply qqg | apply qqa | apply qqf | refine qqh ?_ GE287.out) | exact HB.out))) : w.heap.size ≤ gb302))
         have n6_ := Aside0.mk ((by rw [hg]; exact (qqk (by repeat (first | (with_reducible first | exact HB.out | apply qqg | apply qqa | apply qqf | refine qqh ?_ GE287.out) | exact HB.out))) : w.heap.size ≤ gb302))
         have n7_ := Aside0.mk ((by rw [hg]; exact Nat.ne_of_lt (blk_lt (g := gb287) (o := .cells #[.int .i64 0, .int .i64 0, .int .i64 0, .int .i64 0, .int .i64 0, .int .i64 0] 27 (0, 0)) (by (with_reducible repeat (first | refine qqc ?_ _ | refine qqe ?_ | refine qqd ?_ _)); exact BK287.out)) : gb287 ≠ gb302))
         have n8_ := Aside0.mk ((by rw [hg]; exact Nat.ne_of_gt (blk_lt (g := gb287) (o := .cells #[.int .i64 0, .int .i64 0, .int .i64 0, .int .i64 0, .int .i64 0, .int .i64 0] 27 (0, 0)) (by (with_reducible repeat (first | refine qqc ?_ _ | refine qqe ?_ | refine qqd ?_ _)); exact BK287.out)) : gb302 ≠ gb287))
         clear HO290
         clear HO295
         clear BK287
         clear HB
         have HO290 := n0_
         have HO295 := n1_
         have BK287 := n2_
         have HB := n3_
         have BK302 := n4_
         have GW302 := n5_
         have GE302 := n6_
         have NB287_302 := n7_
         have NB302_287 := n8_
         clear n0_ n1_ n2_ n3_ n4_ n5_ n6_ n7_ n8_
         clear hb hbox hg
         refine hK.out _ _ ⟨HS0_, HS1_, HS2_, HS3_, HS4_, HS5_⟩ (fun hHeld => ?_)
         clear hK K
         refine norm_ (a' := ?_) ?_ ?_
         rotate_left
         ·show Act.put _ (some 7) _ = _
          simp only [Act.put, List.setIfInBounds_toArray, List.set_cons_zero, List.set_cons_succ, qqt, qqu]
          rfl
         refine one_ (i := 23) (N := none) #[true, true, true, true, true, true, true, true, true, true, true, true, true, true, true, true, true, true, true, true, true, true, true, true] rfl rfl (one_of HT_.out (by kernel_rfl)) (by decide) (fun K hK => ?_)
         have hs20 : w19.cell? ⟨gb302, 0, none⟩ = some (.int .i64 0) := (qqr BK302.out 0).trans rfl
         have hfs20 := qqs BK302.out 0
         have hns20_0 := NB287_302.out
         have hms20_0 := NB302_287.out
         have hs21 : w19.cell? ⟨gb302, 1, none⟩ = some (.int .i64 0) := (qqr BK302.out 1).trans rfl
         have hfs21 := qqs BK302.out 1
         have hns21_0 := NB287_302.out
         have hms21_0 := NB302_287.out
         have hs22 : w19.cell? ⟨gb302, 2, none⟩ = some (.int .i64 0) := (qqr BK302.out 2).trans rfl
         have hfs22 := qqs BK302.out 2
         have hns22_0 := NB287_302.out
         have hms22_0 := NB302_287.out
         have hs23 : w19.cell? ⟨gb302, 3, none⟩ = some (.int .i64 0) := (qqr BK302.out 3).trans rfl
         have hfs23 := qqs BK302.out 3
         have hns23_0 := NB287_302.out
         have hms23_0 := NB302_287.out
         have hs24 : w19.cell? ⟨gb302, 4, none⟩ = some (.int .i64 0) := (qqr BK302.out 4).trans rfl
         have hfs24 := qqs BK302.out 4
         have hns24_0 := NB287_302.out
         have hms24_0 := NB302_287.out
         have hs25 : w19.cell? ⟨gb302, 5, none⟩ = some (.int .i64 0) := (qqr BK302.out 5).trans rfl
         have hfs25 := qqs BK302.out 5
         have hns25_0 := NB287_302.out
         have hms25_0 := NB302_287.out
         refine skip_ (w1 := ?_) (by rfl) rfl ?_ ?_
         rotate_left
         ·go_simp
          rfl
         refine hK.out _ _ ⟨((qql (p := ⟨gb302, _, none⟩) (by first | exact Kd.own_blk (Kd.R_ne HO295.out BK302.out (by decide)) | (rw [qqb]; exact Kd.own_blk (Kd.R_ne HO295.out BK302.out (by decide))) | (show (Addr.add _ _).block ≠ _; rw [qqb]; exact Kd.own_blk (Kd.R_ne HO295.out BK302.out (by decide))) | (dsimp only; exact Kd.own_blk (Kd.R_ne HO295.out BK302.out (by decide)))) _).trans (((qql (p := ⟨gb302, _, none⟩) (by first | exact Kd.own_blk (Kd.R_ne HO295.out BK302.out (by decide)) | (rw [qqb]; exact Kd.own_blk (Kd.R_ne HO295.out BK302.out (by decide))) | (show (Addr.add _ _).block ≠ _; rw [qqb]; exact Kd.own_blk (Kd.R_ne HO295.out BK302.out (by decide))) | (dsimp only; exact Kd.own_blk (Kd.R_ne HO295.out BK302.out (by decide)))) _).trans (((qql (p := ⟨gb302, _, none⟩) (by first | exact Kd.own_blk (Kd.R_ne HO295.out BK302.out (by decide)) | (rw [qqb]; exact Kd.own_blk (Kd.R_ne HO295.out BK302.out (by decide))) | (show (Addr.add _ _).block ≠ _; rw [qqb]; exact Kd.own_blk (Kd.R_ne HO295.out BK302.out (by decide))) | (dsimp only; exact Kd.own_blk (Kd.R_ne HO295.out BK302.out (by decide)))) _).trans (((qql (p := ⟨gb302, _, none⟩) (by first | exact Kd.own_blk (Kd.R_ne HO295.out BK302.out (by decide)) | (rw [qqb]; exact Kd.own_blk (Kd.R_ne HO295.out BK302.out (by decide))) | (show (Addr.add _ _).block ≠ _; rw [qqb]; exact Kd.own_blk (Kd.R_ne HO295.out BK302.out (by decide))) | (dsimp only; exact Kd.own_blk (Kd.R_ne HO295.out BK302.out (by decide)))) _).trans (((qql (p := ⟨gb302, _, none⟩) (by first | exact Kd.own_blk (Kd.R_ne HO295.out BK302.out (by decide)) | (rw [qqb]; exact Kd.own_blk (Kd.R_ne HO295.out BK302.out (by decide))) | (show (Addr.add _ _).block ≠ _; rw [qqb]; exact Kd.own_blk (Kd.R_ne HO295.out BK302.out (by decide))) | (dsimp only; exact Kd.own_blk (Kd.R_ne HO295.out BK302.out (by decide)))) _).trans (((qql (p := ⟨gb302, _, none⟩) (by first | exact Kd.own_blk (Kd.R_ne HO295.out BK302.out (by decide)) | (rw [qqb]; exact Kd.own_blk (Kd.R_ne HO295.out BK302.out (by decide))) | (show (Addr.add _ _).block ≠ _; rw [qqb]; exact Kd.own_blk (Kd.R_ne HO295.out BK302.out (by decide))) | (dsimp only; exact Kd.own_blk (Kd.R_ne HO295.out BK302.out (by decide)))) _).trans (hHeld.1)))))))))))), ((qql (p := ⟨gb302, _, none⟩) (by first | exact Kd.own_blk (Kd.R_ne HO295.out BK302.out (by decide)) | (rw [qqb]; exact Kd.own_blk (Kd.R_ne HO295.out BK302.out (by decide))) | (show (Addr.add _ _).block ≠ _; rw [qqb]; exact Kd.own_blk (Kd.R_ne HO295.out BK302.out (by decide))) | (dsimp only; exact Kd.own_blk (Kd.R_ne HO295.out BK302.out (by decide)))) _).trans (((qql (p := ⟨gb302, _, none⟩) (by first | exact Kd.own_blk (Kd.R_ne HO295.out BK302.out (by decide)) | (rw [qqb]; exact Kd.own_blk (Kd.R_ne HO295.out BK302.out (by decide))) | (show (Addr.add _ _).block ≠ _; rw [qqb]; exact Kd.own_blk (Kd.R_ne HO295.out BK302.out (by decide))) | (dsimp only; exact Kd.own_blk (Kd.R_ne HO295.out BK302.out (by decide)))) _).trans (((qql (p := ⟨gb302, _, none⟩) (by first | exact Kd.own_blk (Kd.R_ne HO295.out BK302.out (by decide)) | (rw [qqb]; exact Kd.own_blk (Kd.R_ne HO295.out BK302.out (by decide))) | (show (Addr.add _ _).block ≠ _; rw [qqb]; exact Kd.own_blk (Kd.R_ne HO295.out BK302.out (by decide))) | (dsimp only; exact Kd.own_blk (Kd.R_ne HO295.out BK302.out (by decide)))) _).trans (((qql (p := ⟨gb302, _, none⟩) (by first | exact Kd.own_blk (Kd.R_ne HO295.out BK302.out (by decide)) | (rw [qqb]; exact Kd.own_blk (Kd.R_ne HO295.out BK302.out (by decide))) | (show (Addr.add _ _).block ≠ _; rw [qqb]; exact Kd.own_blk (Kd.R_ne HO295.out BK302.out (by decide))) | (dsimp only; exact Kd.own_blk (Kd.R_ne HO295.out BK302.out (by decide)))) _).trans (((qql (p := ⟨gb302, _, none⟩) (by first | exact Kd.own_blk (Kd.R_ne HO295.out BK302.out (by decide)) | (rw [qqb]; exact Kd.own_blk (Kd.R_ne HO295.out BK302.out (by decide))) | (show (Addr.add _ _).block ≠ _; rw [qqb]; exact Kd.own_blk (Kd.R_ne HO295.out BK302.out (by decide))) | (dsimp only; exact Kd.own_blk (Kd.R_ne HO295.out BK302.out (by decide)))) _).trans (((qql (p := ⟨gb302, _, none⟩) (by first | exact Kd.own_blk (Kd.R_ne HO295.out BK302.out (by decide)) | (rw [qqb]; exact Kd.own_blk (Kd.R_ne HO295.out BK302.out (by decide))) | (show (Addr.add _ _).block ≠ _; rw [qqb]; exact Kd.own_blk (Kd.R_ne HO295.out BK302.out (by decide))) | (dsimp only; exact Kd.own_blk (Kd.R_ne HO295.out BK302.out (by decide)))) _).trans (hHeld.2.1)))))))))))), ((qql (p := ⟨gb302, _, none⟩) (by first | exact Kd.own_blk (Kd.R_ne HO295.out BK302.out (by decide)) | (rw [qqb]; exact Kd.own_blk (Kd.R_ne HO295.out BK302.out (by decide))) | (show (Addr.add _ _).block ≠ _; rw [qqb]; exact Kd.own_blk (Kd.R_ne HO295.out BK302.out (by decide))) | (dsimp only; exact Kd.own_blk (Kd.R_ne HO295.out BK302.out (by decide)))) _).trans (((qql (p := ⟨gb302, _, none⟩) (by first | exact Kd.own_blk (Kd.R_ne HO295.out BK302.out (by decide)) | (rw [qqb]; exact Kd.own_blk (Kd.R_ne HO295.out BK302.out (by decide))) | (show (Addr.add _ _).block ≠ _; rw [qqb]; exact Kd.own_blk (Kd.R_ne HO295.out BK302.out (by decide))) | (dsimp only; exact Kd.own_blk (Kd.R_ne HO295.out BK302.out (by decide)))) _).trans (((qql (p := ⟨gb302, _, none⟩) (by first | exact Kd.own_blk (Kd.R_ne HO295.out BK302.out (by decide)) | (rw [qqb]; exact Kd.own_blk (Kd.R_ne HO295.out BK302.out (by decide))) | (show (Addr.add _ _).block ≠ _; rw [qqb]; exact Kd.own_blk (Kd.R_ne HO295.out BK302.out (by decide))) | (dsimp only; exact Kd.own_blk (Kd.R_ne HO295.out BK302.out (by decide)))) _).trans (((qql (p := ⟨gb302, _, none⟩) (by first | exact Kd.own_blk (Kd.R_ne HO295.out BK302.out (by decide)) | (rw [qqb]; exact Kd.own_blk (Kd.R_ne HO295.out BK302.out (by decide))) | (show (Addr.add _ _).block ≠ _; rw [qqb]; exact Kd.own_blk (Kd.R_ne HO295.out BK302.out (by decide))) | (dsimp only; exact Kd.own_blk (Kd.R_ne HO295.out BK302.out (by decide)))) _).trans (((qql (p := ⟨gb302, _, none⟩) (by first | exact Kd.own_blk (Kd.R_ne HO295.out BK302.out (by decide)) | (rw [qqb]; exact Kd.own_blk (Kd.R_ne HO295.out BK302.out (by decide))) | (show (Addr.add _ _).block ≠ _; rw [qqb]; exact Kd.own_blk (Kd.R_ne HO295.out BK302.out (by decide))) | (dsimp only; exact Kd.own_blk (Kd.R_ne HO295.out BK302.out (by decide)))) _).trans (((qql (p := ⟨gb302, _, none⟩) (by first | exact Kd.own_blk (Kd.R_ne HO295.out BK302.out (by decide)) | (rw [qqb]; exact Kd.own_blk (Kd.R_ne HO295.out BK302.out (by decide))) | (show (Addr.add _ _).block ≠ _; rw [qqb]; exact Kd.own_blk (Kd.R_ne HO295.out BK302.out (by decide))) | (dsimp only; exact Kd.own_blk (Kd.R_ne HO295.out BK302.out (by decide)))) _).trans (hHeld.2.2.1)))))))))))), ((qql (p := ⟨gb302, _, none⟩) (by first | exact Kd.own_blk (Kd.R_ne HO295.out BK302.out (by decide)) | (rw [qqb]; exact Kd.own_blk (Kd.R_ne HO295.out BK302.out (by decide))) | (show (Addr.add _ _).block ≠ _; rw [qqb]; exact Kd.own_blk (Kd.R_ne HO295.out BK302.out (by decide))) | (dsimp only; exact Kd.own_blk (Kd.R_ne HO295.out BK302.out (by decide)))) _).trans (((qql (p := ⟨gb302, _, none⟩) (by first | exact Kd.own_blk (Kd.R_ne HO295.out BK302.out (by decide)) | (rw [qqb]; exact Kd.own_blk (Kd.R_ne HO295.out BK302.out (by decide))) | (show (Addr.add _ _).block ≠ _; rw [qqb]; exact Kd.own_blk (Kd.R_ne HO295.out BK302.out (by decide))) | (dsimp only; exact Kd.own_blk (Kd.R_ne HO295.out BK302.out (by decide)))) _).trans (((qql (p := ⟨gb302, _, none⟩) (by first | exact Kd.own_blk (Kd.R_ne HO295.out BK302.out (by decide)) | (rw [qqb]; exact Kd.own_blk (Kd.R_ne HO295.out BK302.out (by decide))) | (show (Addr.add _ _).block ≠ _; rw [qqb]; exact Kd.own_blk (Kd.R_ne HO295.out BK302.out (by decide))) | (dsimp only; exact Kd.own_blk (Kd.R_ne HO295.out BK302.out (by decide)))) _).trans (((qql (p := ⟨gb302, _, none⟩) (by first | exact Kd.own_blk (Kd.R_ne HO295.out BK302.out (by decide)) | (rw [qqb]; exact Kd.own_blk (Kd.R_ne HO295.out BK302.out (by decide))) | (show (Addr.add _ _).block ≠ _; rw [qqb]; exact Kd.own_blk (Kd.R_ne HO295.out BK302.out (by decide))) | (dsimp only; exact Kd.own_blk (Kd.R_ne HO295.out BK302.out (by decide)))) _).trans (((qql (p := ⟨gb302, _, none⟩) (by first | exact Kd.own_blk (Kd.R_ne HO295.out BK302.out (by decide)) | (rw [qqb]; exact Kd.own_blk (Kd.R_ne HO295.out BK302.out (by decide))) | (show (Addr.add _ _).block ≠ _; rw [qqb]; exact Kd.own_blk (Kd.R_ne HO295.out BK302.out (by decide))) | (dsimp only; exact Kd.own_blk (Kd.R_ne HO295.out BK302.out (by decide)))) _).trans (((qql (p := ⟨gb302, _, none⟩) (by first | exact Kd.own_blk (Kd.R_ne HO295.out BK302.out (by decide)) | (rw [qqb]; exact Kd.own_blk (Kd.R_ne HO295.out BK302.out (by decide))) | (show (Addr.add _ _).block ≠ _; rw [qqb]; exact Kd.own_blk (Kd.R_ne HO295.out BK302.out (by decide))) | (dsimp only; exact Kd.own_blk (Kd.R_ne HO295.out BK302.out (by decide)))) _).trans (hHeld.2.2.2.1)))))))))))), ((qql (p := ⟨gb302, _, none⟩) (by first | exact Kd.own_blk (Kd.R_ne HO295.out BK302.out (by decide)) | (rw [qqb]; exact Kd.own_blk (Kd.R_ne HO295.out BK302.out (by decide))) | (show (Addr.add _ _).block ≠ _; rw [qqb]; exact Kd.own_blk (Kd.R_ne HO295.out BK302.out (by decide))) | (dsimp only; exact Kd.own_blk (Kd.R_ne HO295.out BK302.out (by decide)))) _).trans (((qql (p := ⟨gb302, _, none⟩) (by first | exact Kd.own_blk (Kd.R_ne HO295.out BK302.out (by decide)) | (rw [qqb]; exact Kd.own_blk (Kd.R_ne HO295.out BK302.out (by decide))) | (show (Addr.add _ _).block ≠ _; rw [qqb]; exact Kd.own_blk (Kd.R_ne HO295.out BK302.out (by decide))) | (dsimp only; exact Kd.own_blk (Kd.R_ne HO295.out BK302.out (by decide)))) _).trans (((qql (p := ⟨gb302, _, none⟩) (by first | exact Kd.own_blk (Kd.R_ne HO295.out BK302.out (by decide)) | (rw [qqb]; exact Kd.own_blk (Kd.R_ne HO295.out BK302.out (by decide))) | (show (Addr.add _ _).block ≠ _; rw [qqb]; exact Kd.own_blk (Kd.R_ne HO295.out BK302.out (by decide))) | (dsimp only; exact Kd.own_blk (Kd.R_ne HO295.out BK302.out (by decide)))) _).trans (((qql (p := ⟨gb302, _, none⟩) (by first | exact Kd.own_blk (Kd.R_ne HO295.out BK302.out (by decide)) | (rw [qqb]; exact Kd.own_blk (Kd.R_ne HO295.out BK302.out (by decide))) | (show (Addr.add _ _).block ≠ _; rw [qqb]; exact Kd.own_blk (Kd.R_ne HO295.out BK302.out (by decide))) | (dsimp only; exact Kd.own_blk (Kd.R_ne HO295.out BK302.out (by decide)))) _).trans (((qql (p := ⟨gb302, _, none⟩) (by first | exact Kd.own_blk (Kd.R_ne HO295.out BK302.out (by decide)) | (rw [qqb]; exact Kd.own_blk (Kd.R_ne HO295.out BK302.out (by decide))) | (show (Addr.add _ _).block ≠ _; rw [qqb]; exact Kd.own_blk (Kd.R_ne HO295.out BK302.out (by decide))) | (dsimp only; exact Kd.own_blk (Kd.R_ne HO295.out BK302.out (by decide)))) _).trans (((qql (p := ⟨gb302, _, none⟩) (by first | exact Kd.own_blk (Kd.R_ne HO295.out BK302.out (by decide)) | (rw [qqb]; exact Kd.own_blk (Kd.R_ne HO295.out BK302.out (by decide))) | (show (Addr.add _ _).block ≠ _; rw [qqb]; exact Kd.own_blk (Kd.R_ne HO295.out BK302.out (by decide))) | (dsimp only; exact Kd.own_blk (Kd.R_ne HO295.out BK302.out (by decide)))) _).trans (hHeld.2.2.2.2.1)))))))))))), ((qql (p := ⟨gb302, _, none⟩) (by first | exact Kd.own_blk (Kd.R_ne HO295.out BK302.out (by decide)) | (rw [qqb]; exact Kd.own_blk (Kd.R_ne HO295.out BK302.out (by decide))) | (show (Addr.add _ _).block ≠ _; rw [qqb]; exact Kd.own_blk (Kd.R_ne HO295.out BK302.out (by decide))) | (dsimp only; exact Kd.own_blk (Kd.R_ne HO295.out BK302.out (by decide)))) _).trans (((qql (p := ⟨gb302, _, none⟩) (by first | exact Kd.own_blk (Kd.R_ne HO295.out BK302.out (by decide)) | (rw [qqb]; exact Kd.own_blk (Kd.R_ne HO295.out BK302.out (by decide))) | (show (Addr.add _ _).block ≠ _; rw [qqb]; exact Kd.own_blk (Kd.R_ne HO295.out BK302.out (by decide))) | (dsimp only; exact Kd.own_blk (Kd.R_ne HO295.out BK302.out (by decide)))) _).trans (((qql (p := ⟨gb302, _, none⟩) (by first | exact Kd.own_blk (Kd.R_ne HO295.out BK302.out (by decide)) | (rw [qqb]; exact Kd.own_blk (Kd.R_ne HO295.out BK302.out (by decide))) | (show (Addr.add _ _).block ≠ _; rw [qqb]; exact Kd.own_blk (Kd.R_ne HO295.out BK302.out (by decide))) | (dsimp only; exact Kd.own_blk (Kd.R_ne HO295.out BK302.out (by decide)))) _).trans (((qql (p := ⟨gb302, _, none⟩) (by first | exact Kd.own_blk (Kd.R_ne HO295.out BK302.out (by decide)) | (rw [qqb]; exact Kd.own_blk (Kd.R_ne HO295.out BK302.out (by decide))) | (show (Addr.add _ _).block ≠ _; rw [qqb]; exact Kd.own_blk (Kd.R_ne HO295.out BK302.out (by decide))) | (dsimp only; exact Kd.own_blk (Kd.R_ne HO295.out BK302.out (by decide)))) _).trans (((qql (p := ⟨gb302, _, none⟩) (by first | exact Kd.own_blk (Kd.R_ne HO295.out BK302.out (by decide)) | (rw [qqb]; exact Kd.own_blk (Kd.R_ne HO295.out BK302.out (by decide))) | (show (Addr.add _ _).block ≠ _; rw [qqb]; exact Kd.own_blk (Kd.R_ne HO295.out BK302.out (by decide))) | (dsimp only; exact Kd.own_blk (Kd.R_ne HO295.out BK302.out (by decide)))) _).trans (((qql (p := ⟨gb302, _, none⟩) (by first | exact Kd.own_blk (Kd.R_ne HO295.out BK302.out (by decide)) | (rw [qqb]; exact Kd.own_blk (Kd.R_ne HO295.out BK302.out (by decide))) | (show (Addr.add _ _).block ≠ _; rw [qqb]; exact Kd.own_blk (Kd.R_ne HO295.out BK302.out (by decide))) | (dsimp only; exact Kd.own_blk (Kd.R_ne HO295.out BK302.out (by decide)))) _).trans (hHeld.2.2.2.2.2))))))))))))⟩ (fun hHeld => ?_)
         clear hK K
         refine done_ (done_of HT_.out (by kernel_rfl)) ?_
         have hnb26 := NB302_287.out
         have hnc26 := NB287_302.out
         obtain ⟨hcz27_0, hcz27_1, hcz27_2, hcz27_3, hcz27_4, hcz27_5⟩ := bcells6 BK302.out
         obtain ⟨hfz27_0, hfz27_1, hfz27_2, hfz27_3, hfz27_4, hfz27_5⟩ := bfrozen6 BK302.out
         try go_wp2_with (first | ((with_reducible refine qqv (f := 20) rfl ?_); refine goesL_ (some 43) rfl rfl Tryd.func20 (by kernel_rfl) rfl #[.agg #[.int .i64 (rd t291 0), .int .i64 (rd t291 1), .int .i64 (wrap64 ((rd t291 2) - 1)), .int .i64 (rd t291 3), .int .i64 (rd t291 4), .int .i64 (rd t291 5)]] rfl (by (try simp only [List.map_toArray, List.map_cons, List.map_nil]); first | done | rfl | (simp only [List.length_drop, List.length_take]; rfl)) ?_; (with_reducible refine (wayfinderref04_May.calls k (rd t291 0) (rd t291 1) (wrap64 ((rd t291 2) - 1)) (rd t291 3) (rd t291 4) (rd t291 5) true _ A10.out).mono ?_); rintro e w28 ⟨rfl, hb⟩; refine ⟨_, rfl, ?_⟩; have n0_ := Aside0.mk (Kd.R_below (by (with_reducible repeat (first | apply Kd.R_alloc | apply Kd.R_drewN | apply Kd.R_drew)); exact (Kd.R_mono (Kd.R_far (p := ⟨gb302, 5, none⟩) (Kd.R_far (p := ⟨gb302, 4, none⟩) (Kd.R_far (p := ⟨gb302, 3, none⟩) (Kd.R_far (p := ⟨gb302, 2, none⟩) (Kd.R_far (p := ⟨gb302, 1, none⟩) (Kd.R_far (p := ⟨gb302, 0, none⟩) (Kd.R_types HO290.out BK302.out (by decide)) (fun _ hk => hk.2) (.int .i64 (rd t291 0))) (fun _ hk => hk.2) (.int .i64 (rd t291 1))) (fun _ hk => hk.2) (.int .i64 (wrap64 ((rd t291 2) - 1)))) (fun _ hk => hk.2) (.int .i64 (rd t291 3))) (fun _ hk => hk.2) (.int .i64 (rd t291 4))) (fun _ hk => hk.2) (.int .i64 (rd t291 5))) (fun _ h_ => h_.1))) hb); have n1_ := Aside0.mk (Kd.R_below (by (with_reducible repeat (first | apply Kd.R_alloc | apply Kd.R_drewN | apply Kd.R_drew)); exact (Kd.R_mono (Kd.R_far (p := ⟨gb302, 5, none⟩) (Kd.R_far (p := ⟨gb302, 4, none⟩) (Kd.R_far (p := ⟨gb302, 3, none⟩) (Kd.R_far (p := ⟨gb302, 2, none⟩) (Kd.R_far (p := ⟨gb302, 1, none⟩) (Kd.R_far (p := ⟨gb302, 0, none⟩) (Kd.R_types HO295.out BK302.out (by decide)) (fun _ hk => hk.2) (.int .i64 (rd t291 0))) (fun _ hk => hk.2) (.int .i64 (rd t291 1))) (fun _ hk => hk.2) (.int .i64 (wrap64 ((rd t291 2) - 1)))) (fun _ hk => hk.2) (.int .i64 (rd t291 3))) (fun _ hk => hk.2) (.int .i64 (rd t291 4))) (fun _ hk => hk.2) (.int .i64 (rd t291 5))) (fun _ h_ => h_.1))) hb); have n2_ := Aside0.mk (qqm (g := gb287) (o := .cells #[.int .i64 0, .int .i64 0, .int .i64 0, .int .i64 0, .int .i64 0, .int .i64 0] 27 (0, 0)) (by (with_reducible repeat (first | refine qqc ?_ _ | refine qqe ?_ | refine qqd ?_ _)); refine qqp ?_ NB287_302.out _; (with_reducible repeat (first | refine qqc ?_ _ | refine qqe ?_ | refine qqd ?_ _)); refine qqp ?_ NB287_302.out _; (with_reducible repeat (first | refine qqc ?_ _ | refine qqe ?_ | refine qqd ?_ _)); refine qqp ?_ NB287_302.out _; (with_reducible repeat (first | refine qqc ?_ _ | refine qqe ?_ | refine qqd ?_ _)); refine qqp ?_ NB287_302.out _; (with_reducible repeat (first | refine qqc ?_ _ | refine qqe ?_ | refine qqd ?_ _)); refine qqp ?_ NB287_302.out _; (with_reducible repeat (first | refine qqc ?_ _ | refine qqe ?_ | refine qqd ?_ _)); refine qqp ?_ NB287_302.out _; (with_reducible repeat (first | refine qqc ?_ _ | refine qqe ?_ | refine qqd ?_ _)); exact BK287.out) hb); have n3_ := Aside0.mk (qqm (g := gb302) (o := .cells #[.int .i64 (rd t291 0), .int .i64 (rd t291 1), .int .i64 (wrap64 ((rd t291 2) - 1)), .int .i64 (rd t291 3), .int .i64 (rd t291 4), .int .i64 (rd t291 5)] 27 (0, 0)) (by (with_reducible repeat (first | refine qqc ?_ _ | refine qqe ?_ | refine qqd ?_ _)); refine qqi (cs := #[.int .i64 (rd t291 0), .int .i64 (rd t291 1), .int .i64 (wrap64 ((rd t291 2) - 1)), .int .i64 (rd t291 3), .int .i64 (rd t291 4), .int .i64 0]) ?_ 5 _ rfl; (with_reducible repeat (first | refine qqc ?_ _ | refine qqe ?_ | refine qqd ?_ _)); refine qqi (cs := #[.int .i64 (rd t291 0), .int .i64 (rd t291 1), .int .i64 (wrap64 ((rd t291 2) - 1)), .int .i64 (rd t291 3), .int .i64 0, .int .i64 0]) ?_ 4 _ rfl; (with_reducible repeat (first | refine qqc ?_ _ | refine qqe ?_ | refine qqd ?_ _)); refine qqi (cs := #[.int .i64 (rd t291 0), .int .i64 (rd t291 1), .int .i64 (wrap64 ((rd t291 2) - 1)), .int .i64 0, .int .i64 0, .int .i64 0]) ?_ 3 _ rfl; (with_reducible repeat (first | refine qqc ?_ _ | refine qqe ?_ | refine qqd ?_ _)); refine qqi (cs := #[.int .i64 (rd t291 0), .int .i64 (rd t291 1), .int .i64 0, .int .i64 0, .int .i64 0, .int .i64 0]) ?_ 2 _ rfl; (with_reducible repeat (first | refine qqc ?_ _ | refine qqe ?_ | refine qqd ?_ _)); refine qqi (cs := #[.int .i64 (rd t291 0), .int .i64 0, .int .i64 0, .int .i64 0, .int .i64 0, .int .i64 0]) ?_ 1 _ rfl; (with_reducible repeat (first | refine qqc ?_ _ | refine qqe ?_ | refine qqd ?_ _)); refine qqi (cs := #[.int .i64 0, .int .i64 0, .int .i64 0, .int .i64 0, .int .i64 0, .int .i64 0]) ?_ 0 _ rfl; (with_reducible repeat (first | refine qqc ?_ _ | refine qqe ?_ | refine qqd ?_ _)); exact BK302.out) hb); have n4_ := Aside0.mk (qqj (by repeat (first | (with_reducible first | exact HB.out | apply qqg | apply qqa | apply qqf | refine qqh ?_ GE287.out | refine qqh ?_ GE302.out) | exact HB.out)) hb); clear HO290; clear HO295; clear BK287; clear BK302; clear HB; have HO290 := n0_; have HO295 := n1_; have BK287 := n2_; have BK302 := n3_; have HB := n4_; clear n0_ n1_ n2_ n3_ n4_; (try clear hb); (try clear hb2); (try clear hk); (try clear hi); obtain ⟨hcz29_0, hcz29_1, hcz29_2, hcz29_3, hcz29_4, hcz29_5⟩ := bcells6 BK302.out; obtain ⟨hfz29_0, hfz29_1, hfz29_2, hfz29_3, hfz29_4, hfz29_5⟩ := bfrozen6 BK302.out; obtain ⟨hcz30_0, hcz30_1, hcz30_2, hcz30_3, hcz30_4, hcz30_5⟩ := bcells6 BK287.out; obtain ⟨hfz30_0, hfz30_1, hfz30_2, hfz30_3, hfz30_4, hfz30_5⟩ := bfrozen6 BK287.out))
         refine bodyPost_ret (results_ct rfl _ _ gb287 27 #[.int .i64 (rd t291 0), .int .i64 (rd t291 1), .int .i64 (wrap64 ((rd t291 2) - 1)), .int .i64 (rd t291 3), .int .i64 (rd t291 4), .int .i64 (rd t291 5)] (0, 0) _ rfl (by (with_reducible repeat (first | refine qqc ?_ _ | refine qqe ?_ | refine qqd ?_ _)); refine qqi (cs := #[.int .i64 (rd t291 0), .int .i64 (rd t291 1), .int .i64 (wrap64 ((rd t291 2) - 1)), .int .i64 (rd t291 3), .int .i64 (rd t291 4), .int .i64 0]) ?_ 5 _ rfl; (with_reducible repeat (first | refine qqc ?_ _ | refine qqe ?_ | refine qqd ?_ _)); refine qqi (cs := #[.int .i64 (rd t291 0), .int .i64 (rd t291 1), .int .i64 (wrap64 ((rd t291 2) - 1)), .int .i64 (rd t291 3), .int .i64 0, .int .i64 0]) ?_ 4 _ rfl; (with_reducible repeat (first | refine qqc ?_ _ | refine qqe ?_ | refine qqd ?_ _)); refine qqi (cs := #[.int .i64 (rd t291 0), .int .i64 (rd t291 1), .int .i64 (wrap64 ((rd t291 2) - 1)), .int .i64 0, .int .i64 0, .int .i64 0]) ?_ 3 _ rfl; (with_reducible repeat (first | refine qqc ?_ _ | refine qqe ?_ | refine qqd ?_ _)); refine qqi (cs := #[.int .i64 (rd t291 0), .int .i64 (rd t291 1), .int .i64 0, .int .i64 0, .int .i64 0, .int .i64 0]) ?_ 2 _ rfl; (with_reducible repeat (first | refine qqc ?_ _ | refine qqe ?_ | refine qqd ?_ _)); refine qqi (cs := #[.int .i64 (rd t291 0), .int .i64 0, .int .i64 0, .int .i64 0, .int .i64 0, .int .i64 0]) ?_ 1 _ rfl; (with_reducible repeat (first | refine qqc ?_ _ | refine qqe ?_ | refine qqd ?_ _)); refine qqi (cs := #[.int .i64 0, .int .i64 0, .int .i64 0, .int .i64 0, .int .i64 0, .int .i64 0]) ?_ 0 _ rfl; (with_reducible repeat (first | refine qqc ?_ _ | refine qqe ?_ | refine qqd ?_ _)); exact BK287.out) Tryd.underlying27 rfl (by kernel_rfl)) rfl ?_
         exact ⟨by first | rfl | (simp [qqo, qqn] <;> rfl) | (simp [*, qqo, qqn] <;> rfl), by repeat (first | (with_reducible first | exact HB.out | apply qqg | apply qqa | apply qqf | refine qqh ?_ GE287.out | refine qqh ?_ GE302.out) | exact HB.out)⟩
        ·replace c11 := Bool.eq_false_iff.mpr c11
         subst c11
         have H1 : (some (0, 0, 0, 0, 0, 0, 2)) = some (r1, r2, r3, r4, r5, r6, r7) := by rw [if_neg (show ¬ (false = true) by decide)] at H; exact H
         clear H
         have H := H1
         clear H1
         simp only [Option.some.injEq, Prod.mk.injEq] at H
         obtain ⟨rfl, rfl, rfl, rfl, rfl, rfl, rfl⟩ := H
         go_enter Tryd.func26, Tryd.ntmps26
         try go_wp2_with (first | ((with_reducible refine qqx (N := 2) rfl ?_); refine box_event ?hg (N := 2) ?hd (cs := #[.int .i64 0, .int .i64 0, .int .i64 0, .int .i64 0, .int .i64 0, .int .i64 0]) (t := 27) ?hr ?_; (case hd => rfl); (case hg => rfl); (case hr => first | (go_simp; done) | (go_simp; rfl)); intro gb287 hg w31 hbox hb; have n0_ := Aside0.mk (qqj (by repeat (first | (with_reducible first | exact HB.out | apply qqg | apply qqa | apply qqf) | exact HB.out)) hb); have n1_ := Aside0.mk (hbox); have n2_ := Aside0.mk ((by rw [hg]; exact (qqk (by repeat (first | (with_reducible first | exact HB.out | apply qqg | apply qqa | apply qqf) | exact HB.out))) : w.heap.size ≤ gb287)); have n3_ := Aside0.mk ((by rw [hg]; exact (qqk (by repeat (first | (with_reducible first | exact HB.out | apply qqg | apply qqa | apply qqf) | exact HB.out))) : w.heap.size ≤ gb287)); clear HB; have HB := n0_; have BK287 := n1_; have GW287 := n2_; have GE287 := n3_; clear n0_ n1_ n2_ n3_; clear hb hbox hg) | ((with_reducible refine qqx (N := 11) rfl ?_); refine Kd.R_lit (Kd.int .i64) _ 3 ?hg (N := 11) ?hd (xs := ([4, 1, 1, 1, 1, 1] : List Int)) (inner := [.int .i64 4, .int .i64 1, .int .i64 1, .int .i64 1, .int .i64 1, .int .i64 1]) (ok := fun _ => True) (okp := fun _ => True) ?hr ?hp (fun _ hk => hk) trivial (Below.refl _ _) (Nat.le_refl _) (by simp) ?_; (case hd => rfl); (case hg => rfl); (case hr => first | (go_simp; done) | (go_simp; rfl)); (case hp => exact (Reps.one (show Kd.M (Kd.int .i64) _ _ _ 4 [.int .i64 4] from rfl) (Reps.one (show Kd.M (Kd.int .i64) _ _ _ 1 [.int .i64 1] from rfl) (Reps.one (show Kd.M (Kd.int .i64) _ _ _ 1 [.int .i64 1] from rfl) (Reps.one (show Kd.M (Kd.int .i64) _ _ _ 1 [.int .i64 1] from rfl) (Reps.one (show Kd.M (Kd.int .i64) _ _ _ 1 [.int .i64 1] from rfl) (Reps.one (show Kd.M (Kd.int .i64) _ _ _ 1 [.int .i64 1] from rfl) (Reps.none _ _)))))))); intro v289 w32 ho33 hb hg_ hnew_; clear hg_ hnew_; (first | rw [← Ny288.out] at ho33 | (simp only [Int.reduceToNat] at ho33; rw [← Ny288.out] at ho33)); have n0_ := Aside0.mk (Kd.R_lower ho33 (qqk (by repeat (first | (with_reducible first | exact HB.out | apply qqg | apply qqa | apply qqf | refine qqh ?_ GE287.out) | exact HB.out)))); have n1_ := Aside0.mk (qqm (g := gb287) (o := .cells #[.int .i64 0, .int .i64 0, .int .i64 0, .int .i64 0, .int .i64 0, .int .i64 0] 27 (0, 0)) (by (with_reducible repeat (first | refine qqc ?_ _ | refine qqe ?_ | refine qqd ?_ _)); exact BK287.out) hb); have n2_ := Aside0.mk (qqj (by repeat (first | (with_reducible first | exact HB.out | apply qqg | apply qqa | apply qqf | refine qqh ?_ GE287.out) | exact HB.out)) hb); clear BK287; clear HB; have HO290 := n0_; have BK287 := n1_; have HB := n2_; clear n0_ n1_ n2_; clear hb ho33; obtain ⟨Ao34, co34, eo34⟩ := Kd.R_slice HO290.out; subst eo34) | ((with_reducible refine qqv (f := 25) rfl ?_); refine goesL_ (some 12) rfl rfl Tryd.func25 (by kernel_rfl) rfl #[.slice A0 l0.length c0, .slice Ao34 y288.length co34] rfl (by (try simp only [List.map_toArray, List.map_cons, List.map_nil]); first | done | rfl | (simp only [List.length_drop, List.length_take]; rfl)) ?_; (with_reducible refine (wayfinderref02_GetAll.calls k _ _ l0 _ _ y288 t291 t292 t293 _ ?side1 ?side2 ?side3 ?side4 A2.out).mono ?_); (case side1 => repeat (first | exact (Kd.C_below HR0.out HB.out) | (with_reducible refine Kd.C_alloc ?_ _) | (with_reducible refine Kd.C_drewN ?_ _) | (with_reducible refine Kd.C_drew ?_))); (case side2 => exact HC0.out); (case side3 => repeat (first | exact (Kd.R_reads' HO290.out).2.2 | (with_reducible refine Kd.C_alloc ?_ _) | (with_reducible refine Kd.C_drewN ?_ _) | (with_reducible refine Kd.C_drew ?_))); (case side4 => exact (Kd.R_reads' HO290.out).2.1); rintro e w35 ⟨v294, rfl, ho0, hb⟩; refine ⟨_, rfl, ?_⟩; have n0_ := Aside0.mk (Kd.R_elder' (by (with_reducible repeat (first | apply Kd.R_alloc | apply Kd.R_drewN | apply Kd.R_drew)); exact HO290.out) (Kd.R_base ho0) hb); have n1_ := Aside0.mk (Kd.R_lower (Kd.R_new' ho0 (Kd.R_lt (by (with_reducible repeat (first | apply Kd.R_alloc | apply Kd.R_drewN | apply Kd.R_drew)); exact HO290.out))) (qqk (by repeat (first | (with_reducible first | exact HB.out | apply qqg | apply qqa | apply qqf | refine qqh ?_ GE287.out) | exact HB.out)))); have n2_ := Aside0.mk (qqm (g := gb287) (o := .cells #[.int .i64 0, .int .i64 0, .int .i64 0, .int .i64 0, .int .i64 0, .int .i64 0] 27 (0, 0)) (by (with_reducible repeat (first | refine qqc ?_ _ | refine qqe ?_ | refine qqd ?_ _)); exact BK287.out) hb); have n3_ := Aside0.mk (qqj (by repeat (first | (with_reducible first | exact HB.out | apply qqg | apply qqa | apply qqf | refine qqh ?_ GE287.out) | exact HB.out)) hb); clear HO290; clear BK287; clear HB; have HO290 := n0_; have HO295 := n1_; have BK287 := n2_; have HB := n3_; clear n0_ n1_ n2_ n3_; (try clear hb); (try clear hb2); (try clear hk); (try clear hi); (try clear ho0)))
         have n0_ := Aside0.mk (Kd.R_drew HO290.out)
         have n1_ := Aside0.mk (Kd.R_drew HO295.out)
         have n2_ := Aside0.mk (qqe BK287.out)
         have n3_ := Aside0.mk (qqf HB.out)
         clear HO290
         clear HO295
         clear BK287
         clear HB
         have HO290 := n0_
         have HO295 := n1_
         have BK287 := n2_
         have HB := n3_
         clear n0_ n1_ n2_ n3_
         obtain ⟨Ao37, co37, eo37⟩ := Kd.R_slice HO295.out
         (first | subst eo37 | (injection eo37 with f1_ f2_ f3_; have f4_ := f1_.symm; have f5_ := f3_.symm; clear f1_ f2_ f3_; subst f4_; subst f5_))
         have p296 : 0 ≤ (0 : Int) := (by omega)
         have q296 : 0 < (t291.length : Int) := of_decide_eq_true (by first | (with_reducible assumption) | assumption)
         obtain ⟨ad296, e296, hx296_0⟩ := Kd.at_int (Kd.R_reads' HO295.out).2.2 0 p296 q296
         cases e296
         have qi296 : (0 < t291.length) = True := eq_true (by omega)
         (try rw [show ((0 : Int)).toNat = 0 from rfl] at hx296_0)
         (try rw [Addr.add_zero'] at hx296_0)
         replace p296 := eq_true p296
         replace q296 := eq_true q296
         have p297 : 0 ≤ (1 : Int) := (by omega)
         have q297 : 1 < (t291.length : Int) := of_decide_eq_true (by first | (with_reducible assumption) | assumption)
         obtain ⟨ad297, e297, hx297_0⟩ := Kd.at_int (Kd.R_reads' HO295.out).2.2 1 p297 q297
         obtain rfl : ad296 = ad297 := (by injection e297)
         (try simp only [show (1 : Int).toNat = 1 from rfl, Nat.reduceMul, Nat.reduceEqDiff, Go.Addr.add, ↓reduceIte] at hx297_0)
         have qi297 : (1 < t291.length) = True := eq_true (by omega)
         (try rw [show ((1 : Int)).toNat = 1 from rfl] at hx297_0)
         replace p297 := eq_true p297
         replace q297 := eq_true q297
         have p298 : 0 ≤ (2 : Int) := (by omega)
         have q298 : 2 < (t291.length : Int) := of_decide_eq_true (by first | (with_reducible assumption) | assumption)
         obtain ⟨ad298, e298, hx298_0⟩ := Kd.at_int (Kd.R_reads' HO295.out).2.2 2 p298 q298
         obtain rfl : ad296 = ad298 := (by injection e298)
         (try simp only [show (2 : Int).toNat = 2 from rfl, Nat.reduceMul, Nat.reduceEqDiff, Go.Addr.add, ↓reduceIte] at hx298_0)
         have qi298 : (2 < t291.length) = True := eq_true (by omega)
         (try rw [show ((2 : Int)).toNat = 2 from rfl] at hx298_0)
         replace p298 := eq_true p298
         replace q298 := eq_true q298
         have p299 : 0 ≤ (3 : Int) := (by omega)
         have q299 : 3 < (t291.length : Int) := of_decide_eq_true (by first | (with_reducible assumption) | assumption)
         obtain ⟨ad299, e299, hx299_0⟩ := Kd.at_int (Kd.R_reads' HO295.out).2.2 3 p299 q299
         obtain rfl : ad296 = ad299 := (by injection e299)
         (try simp only [show (3 : Int).toNat = 3 from rfl, Nat.reduceMul, Nat.reduceEqDiff, Go.Addr.add, ↓reduceIte] at hx299_0)
         have qi299 : (3 < t291.length) = True := eq_true (by omega)
         (try rw [show ((3 : Int)).toNat = 3 from rfl] at hx299_0)
         replace p299 := eq_true p299
         replace q299 := eq_true q299
         have p300 : 0 ≤ (4 : Int) := (by omega)
         have q300 : 4 < (t291.length : Int) := of_decide_eq_true (by first | (with_reducible assumption) | assumption)
         obtain ⟨ad300, e300, hx300_0⟩ := Kd.at_int (Kd.R_reads' HO295.out).2.2 4 p300 q300
         obtain rfl : ad296 = ad300 := (by injection e300)
         (try simp only [show (4 : Int).toNat = 4 from rfl, Nat.reduceMul, Nat.reduceEqDiff, Go.Addr.add, ↓reduceIte] at hx300_0)
         have qi300 : (4 < t291.length) = True := eq_true (by omega)
         (try rw [show ((4 : Int)).toNat = 4 from rfl] at hx300_0)
         replace p300 := eq_true p300
         replace q300 := eq_true q300
         have p301 : 0 ≤ (5 : Int) := (by omega)
         have q301 : 5 < (t291.length : Int) := of_decide_eq_true (by first | (with_reducible assumption) | assumption)
         obtain ⟨ad301, e301, hx301_0⟩ := Kd.at_int (Kd.R_reads' HO295.out).2.2 5 p301 q301
         obtain rfl : ad296 = ad301 := (by injection e301)
         (try simp only [show (5 : Int).toNat = 5 from rfl, Nat.reduceMul, Nat.reduceEqDiff, Go.Addr.add, ↓reduceIte] at hx301_0)
         have qi301 : (5 < t291.length) = True := eq_true (by omega)
         (try rw [show ((5 : Int)).toNat = 5 from rfl] at hx301_0)
         replace p301 := eq_true p301
         replace q301 := eq_true q301
         refine start_ (n := 24) (S := fun w' => w'.cell? ad296 = some (.int .i64 (rd t291 0)) ∧ w'.cell? ⟨ad296.block, ad296.off + 1, none⟩ = some (.int .i64 (rd t291 1)) ∧ w'.cell? ⟨ad296.block, ad296.off + 2, none⟩ = some (.int .i64 (rd t291 2)) ∧ w'.cell? ⟨ad296.block, ad296.off + 3, none⟩ = some (.int .i64 (rd t291 3)) ∧ w'.cell? ⟨ad296.block, ad296.off + 4, none⟩ = some (.int .i64 (rd t291 4)) ∧ w'.cell? ⟨ad296.block, ad296.off + 5, none⟩ = some (.int .i64 (rd t291 5))) (ds := []) #[false, false, false, false, false, false, false, false, false, false, false, false, false, false, false, false, false, false, false, false, false, false, false, false] (by kernel_rfl) rfl rfl ⟨hx296_0, hx297_0, hx298_0, hx299_0, hx300_0, hx301_0⟩ (fun hHeld => ?_); refine with_tabW wayfinderref04_Get.tab4 wayfinderref04_Get.bits4 (fun HT_ HW_ => ?_)
         generalize w35.drew = w36 at HO290 HO295 BK287 HB hx296_0 hx297_0 hx298_0 hx299_0 hx300_0 hx301_0 hHeld ⊢
         refine qqw (i := 0) (N := some 20) (v := ?_) (a' := ?_) #[true, false, false, false, false, false, false, false, false, false, false, false, false, false, false, false, false, false, false, false, false, false, false, false] rfl rfl (qqq HT_.out (by kernel_rfl)) (fun _ _ _ h => h) (Or.inl ⟨by rfl, ?_⟩) ?_ ?_
         rotate_left
         ·intro w'
          go_simp
          with_reducible rfl
         rotate_left
         ·simp only [Act.put, List.setIfInBounds_toArray, List.set_cons_zero, List.set_cons_succ, qqt, qqu]
          rfl
         refine qqw (i := 1) (N := some 21) (v := ?_) (a' := ?_) #[true, true, false, false, false, false, false, false, false, false, false, false, false, false, false, false, false, false, false, false, false, false, false, false] rfl rfl (qqq HT_.out (by kernel_rfl)) (fun _ _ _ h => h) (Or.inl ⟨by rfl, ?_⟩) ?_ ?_
         rotate_left
         ·intro w'
          go_simp
          with_reducible rfl
         rotate_left
         ·simp only [Act.put, List.setIfInBounds_toArray, List.set_cons_zero, List.set_cons_succ, qqt, qqu]
          rfl
         refine qqw (i := 3) (N := some 23) (v := ?_) (a' := ?_) #[true, true, false, true, false, false, false, false, false, false, false, false, false, false, false, false, false, false, false, false, false, false, false, false] rfl rfl (qqq HT_.out (by kernel_rfl)) (fun _ _ _ h => h) (Or.inl ⟨by rfl, ?_⟩) ?_ ?_
         rotate_left
         ·intro w'
          go_simp
          with_reducible rfl
         rotate_left
         ·simp only [Act.put, List.setIfInBounds_toArray, List.set_cons_zero, List.set_cons_succ, qqt, qqu]
          rfl
         refine qqw (i := 4) (N := some 24) (v := ?_) (a' := ?_) #[true, true, false, true, true, false, false, false, false, false, false, false, false, false, false, false, false, false, false, false, false, false, false, false] rfl rfl (qqq HT_.out (by kernel_rfl)) (fun _ _ _ h => h) (Or.inl ⟨by rfl, ?_⟩) ?_ ?_
         rotate_left
         ·intro w'
          go_simp
          with_reducible rfl
         rotate_left
         ·simp only [Act.put, List.setIfInBounds_toArray, List.set_cons_zero, List.set_cons_succ, qqt, qqu]
          rfl
         refine qqw (i := 7) (N := some 27) (v := ?_) (a' := ?_) #[true, true, false, true, true, false, false, true, false, false, false, false, false, false, false, false, false, false, false, false, false, false, false, false] rfl rfl (qqq HT_.out (by kernel_rfl)) (fun _ _ _ h => h) (Or.inl ⟨by rfl, ?_⟩) ?_ ?_
         rotate_left
         ·intro w'
          go_simp
          with_reducible rfl
         rotate_left
         ·simp only [Act.put, List.setIfInBounds_toArray, List.set_cons_zero, List.set_cons_succ, qqt, qqu]
          rfl
         refine qqw (i := 8) (N := some 28) (v := ?_) (a' := ?_) #[true, true, false, true, true, false, false, true, true, false, false, false, false, false, false, false, false, false, false, false, false, false, false, false] rfl rfl (qqq HT_.out (by kernel_rfl)) (fun _ _ _ h => h) (Or.inl ⟨by rfl, ?_⟩) ?_ ?_
         rotate_left
         ·intro w'
          go_simp
          with_reducible rfl
         rotate_left
         ·simp only [Act.put, List.setIfInBounds_toArray, List.set_cons_zero, List.set_cons_succ, qqt, qqu]
          rfl
         refine qqw (i := 11) (N := some 31) (v := ?_) (a' := ?_) #[true, true, false, true, true, false, false, true, true, false, false, true, false, false, false, false, false, false, false, false, false, false, false, false] rfl rfl (qqq HT_.out (by kernel_rfl)) (fun _ _ _ h => h) (Or.inl ⟨by rfl, ?_⟩) ?_ ?_
         rotate_left
         ·intro w'
          go_simp
          with_reducible rfl
         rotate_left
         ·simp only [Act.put, List.setIfInBounds_toArray, List.set_cons_zero, List.set_cons_succ, qqt, qqu]
          rfl
         refine qqw (i := 12) (N := some 32) (v := ?_) (a' := ?_) #[true, true, false, true, true, false, false, true, true, false, false, true, true, false, false, false, false, false, false, false, false, false, false, false] rfl rfl (qqq HT_.out (by kernel_rfl)) (fun _ _ _ h => h) (Or.inl ⟨by rfl, ?_⟩) ?_ ?_
         rotate_left
         ·intro w'
          go_simp
          with_reducible rfl
         rotate_left
         ·simp only [Act.put, List.setIfInBounds_toArray, List.set_cons_zero, List.set_cons_succ, qqt, qqu]
          rfl
         refine qqw (i := 14) (N := some 34) (v := ?_) (a' := ?_) #[true, true, false, true, true, false, false, true, true, false, false, true, true, false, true, false, false, false, false, false, false, false, false, false] rfl rfl (qqq HT_.out (by kernel_rfl)) (fun _ _ _ h => h) (Or.inl ⟨by rfl, ?_⟩) ?_ ?_
         rotate_left
         ·intro w'
          go_simp
          with_reducible rfl
         rotate_left
         ·simp only [Act.put, List.setIfInBounds_toArray, List.set_cons_zero, List.set_cons_succ, qqt, qqu]
          rfl
         refine qqw (i := 15) (N := some 35) (v := ?_) (a' := ?_) #[true, true, false, true, true, false, false, true, true, false, false, true, true, false, true, true, false, false, false, false, false, false, false, false] rfl rfl (qqq HT_.out (by kernel_rfl)) (fun _ _ _ h => h) (Or.inl ⟨by rfl, ?_⟩) ?_ ?_
         rotate_left
         ·intro w'
          go_simp
          with_reducible rfl
         rotate_left
         ·simp only [Act.put, List.setIfInBounds_toArray, List.set_cons_zero, List.set_cons_succ, qqt, qqu]
          rfl
         refine qqw (i := 17) (N := some 37) (v := ?_) (a' := ?_) #[true, true, false, true, true, false, false, true, true, false, false, true, true, false, true, true, false, true, false, false, false, false, false, false] rfl rfl (qqq HT_.out (by kernel_rfl)) (fun _ _ _ h => h) (Or.inl ⟨by rfl, ?_⟩) ?_ ?_
         rotate_left
         ·intro w'
          go_simp
          with_reducible rfl
         rotate_left
         ·simp only [Act.put, List.setIfInBounds_toArray, List.set_cons_zero, List.set_cons_succ, qqt, qqu]
          rfl
         refine qqw (i := 18) (N := some 38) (v := ?_) (a' := ?_) #[true, true, false, true, true, false, false, true, true, false, false, true, true, false, true, true, false, true, true, false, false, false, false, false] rfl rfl (qqq HT_.out (by kernel_rfl)) (fun _ _ _ h => h) (Or.inl ⟨by rfl, ?_⟩) ?_ ?_
         rotate_left
         ·intro w'
          go_simp
          with_reducible rfl
         rotate_left
         ·simp only [Act.put, List.setIfInBounds_toArray, List.set_cons_zero, List.set_cons_succ, qqt, qqu]
          rfl
         refine take_ (i := 2) (N := some 22) (v := ?_) (a' := ?_) #[true, true, true, true, true, false, false, true, true, false, false, true, true, false, true, true, false, true, true, false, false, false, false, false] rfl rfl (take_ofW HT_.out HW_.out (by kernel_rfl)) (fun _ _ _ h => h) (Or.inl ⟨by rfl, ?_⟩) hHeld ?_ ?_
         rotate_left
         ·rintro w' ⟨s0, s1, s2, s3, s4, s5⟩
          go_simp
          with_reducible rfl
         rotate_left
         ·simp only [Act.put, List.setIfInBounds_toArray, List.set_cons_zero, List.set_cons_succ, qqt, qqu]
          rfl
         refine take_ (i := 5) (N := some 25) (v := ?_) (a' := ?_) #[true, true, true, true, true, true, false, true, true, false, false, true, true, false, true, true, false, true, true, false, false, false, false, false] rfl rfl (take_ofW HT_.out HW_.out (by kernel_rfl)) (fun _ _ _ h => h) (Or.inl ⟨by rfl, ?_⟩) hHeld ?_ ?_
         rotate_left
         ·rintro w' ⟨s0, s1, s2, s3, s4, s5⟩
          go_simp
          with_reducible rfl
         rotate_left
         ·simp only [Act.put, List.setIfInBounds_toArray, List.set_cons_zero, List.set_cons_succ, qqt, qqu]
          rfl
         refine qqw (i := 6) (N := some 26) (v := ?_) (a' := ?_) #[true, true, true, true, true, true, true, true, true, false, false, true, true, false, true, true, false, true, true, false, false, false, false, false] rfl rfl (qqq HT_.out (by kernel_rfl)) (fun _ _ _ h => h) (Or.inl ⟨by rfl, ?_⟩) ?_ ?_
         rotate_left
         ·intro w'
          go_simp
          with_reducible rfl
         rotate_left
         ·simp only [Act.put, List.setIfInBounds_toArray, List.set_cons_zero, List.set_cons_succ, qqt, qqu]
          rfl
         refine take_ (i := 9) (N := some 29) (v := ?_) (a' := ?_) #[true, true, true, true, true, true, true, true, true, true, false, true, true, false, true, true, false, true, true, false, false, false, false, false] rfl rfl (take_ofW HT_.out HW_.out (by kernel_rfl)) (fun _ _ _ h => h) (Or.inl ⟨by rfl, ?_⟩) hHeld ?_ ?_
         rotate_left
         ·rintro w' ⟨s0, s1, s2, s3, s4, s5⟩
          go_simp
          with_reducible rfl
         rotate_left
         ·simp only [Act.put, List.setIfInBounds_toArray, List.set_cons_zero, List.set_cons_succ, qqt, qqu]
          rfl
         refine qqw (i := 10) (N := some 30) (v := ?_) (a' := ?_) #[true, true, true, true, true, true, true, true, true, true, true, true, true, false, true, true, false, true, true, false, false, false, false, false] rfl rfl (qqq HT_.out (by kernel_rfl)) (fun _ _ _ h => h) (Or.inl ⟨by rfl, ?_⟩) ?_ ?_
         rotate_left
         ·intro w'
          go_simp
          with_reducible rfl
         rotate_left
         ·simp only [Act.put, List.setIfInBounds_toArray, List.set_cons_zero, List.set_cons_succ, qqt, qqu]
          rfl
         refine take_ (i := 13) (N := some 33) (v := ?_) (a' := ?_) #[true, true, true, true, true, true, true, true, true, true, true, true, true, true, true, true, false, true, true, false, false, false, false, false] rfl rfl (take_ofW HT_.out HW_.out (by kernel_rfl)) (fun _ _ _ h => h) (Or.inl ⟨by rfl, ?_⟩) hHeld ?_ ?_
         rotate_left
         ·rintro w' ⟨s0, s1, s2, s3, s4, s5⟩
          go_simp
          with_reducible rfl
         rotate_left
         ·simp only [Act.put, List.setIfInBounds_toArray, List.set_cons_zero, List.set_cons_succ, qqt, qqu]
          rfl
         refine take_ (i := 16) (N := some 36) (v := ?_) (a' := ?_) #[true, true, true, true, true, true, true, true, true, true, true, true, true, true, true, true, true, true, true, false, false, false, false, false] rfl rfl (take_ofW HT_.out HW_.out (by kernel_rfl)) (fun _ _ _ h => h) (Or.inl ⟨by rfl, ?_⟩) hHeld ?_ ?_
         rotate_left
         ·rintro w' ⟨s0, s1, s2, s3, s4, s5⟩
          go_simp
          with_reducible rfl
         rotate_left
         ·simp only [Act.put, List.setIfInBounds_toArray, List.set_cons_zero, List.set_cons_succ, qqt, qqu]
          rfl
         refine take_ (i := 19) (N := some 39) (v := ?_) (a' := ?_) #[true, true, true, true, true, true, true, true, true, true, true, true, true, true, true, true, true, true, true, true, false, false, false, false] rfl rfl (take_ofW HT_.out HW_.out (by kernel_rfl)) (fun _ _ _ h => h) (Or.inl ⟨by rfl, ?_⟩) hHeld ?_ ?_
         rotate_left
         ·rintro w' ⟨s0, s1, s2, s3, s4, s5⟩
          go_simp
          with_reducible rfl
         rotate_left
         ·simp only [Act.put, List.setIfInBounds_toArray, List.set_cons_zero, List.set_cons_succ, qqt, qqu]
          rfl
         refine qqw (i := 20) (N := some 40) (v := ?_) (a' := ?_) #[true, true, true, true, true, true, true, true, true, true, true, true, true, true, true, true, true, true, true, true, true, false, false, false] rfl rfl (qqq HT_.out (by kernel_rfl)) (fun _ _ _ h => h) (Or.inl ⟨by rfl, ?_⟩) ?_ ?_
         rotate_left
         ·intro w'
          go_simp
          with_reducible rfl
         rotate_left
         ·simp only [Act.put, List.setIfInBounds_toArray, List.set_cons_zero, List.set_cons_succ, qqt, qqu]
          rfl
         refine qqw (i := 21) (N := some 41) (v := ?_) (a' := ?_) #[true, true, true, true, true, true, true, true, true, true, true, true, true, true, true, true, true, true, true, true, true, true, false, false] rfl rfl (qqq HT_.out (by kernel_rfl)) (fun _ _ _ h => h) (Or.inl ⟨by rfl, ?_⟩) ?_ ?_
         rotate_left
         ·intro w'
          go_simp
          with_reducible rfl
         rotate_left
         ·simp only [Act.put, List.setIfInBounds_toArray, List.set_cons_zero, List.set_cons_succ, qqt, qqu]
          rfl
         refine one_ (i := 22) (N := some 7) #[true, true, true, true, true, true, true, true, true, true, true, true, true, true, true, true, true, true, true, true, true, true, true, false] rfl rfl (one_of HT_.out (by kernel_rfl)) (by decide) (fun K hK => ?_)
         refine box_step ?hg (N := 7) ?hd (cs := #[.int .i64 0, .int .i64 0, .int .i64 0, .int .i64 0, .int .i64 0, .int .i64 0]) (t := 27) ?hr ?_; (case hd => rfl); (case hg => rfl); (case hr => first | (go_simp; done) | (go_simp; rfl))
         intro gb302 hg w38 hbox hb
         have HS0_ := (hb.cell (World.block_lt_of_cell? _ _ (hHeld.1))).trans (hHeld.1)
         have HS1_ := (hb.cell (World.block_lt_of_cell? _ _ (hHeld.2.1))).trans (hHeld.2.1)
         have HS2_ := (hb.cell (World.block_lt_of_cell? _ _ (hHeld.2.2.1))).trans (hHeld.2.2.1)
         have HS3_ := (hb.cell (World.block_lt_of_cell? _ _ (hHeld.2.2.2.1))).trans (hHeld.2.2.2.1)
         have HS4_ := (hb.cell (World.block_lt_of_cell? _ _ (hHeld.2.2.2.2.1))).trans (hHeld.2.2.2.2.1)
         have HS5_ := (hb.cell (World.block_lt_of_cell? _ _ (hHeld.2.2.2.2.2))).trans (hHeld.2.2.2.2.2)
         have n0_ := Aside0.mk (Kd.R_below (by (with_reducible repeat (first | apply Kd.R_alloc | apply Kd.R_drewN | apply Kd.R_drew)); exact HO290.out) hb)
         have n1_ := Aside0.mk (Kd.R_below (by (with_reducible repeat (first | apply Kd.R_alloc | apply Kd.R_drewN | apply Kd.R_drew)); exact HO295.out) hb)
         have n2_ := Aside0.mk (qqm (g := gb287) (o := .cells #[.int .i64 0, .int .i64 0, .int .i64 0, .int .i64 0, .int .i64 0, .int .i64 0] 27 (0, 0)) (by (with_reducible repeat (first | refine qqc ?_ _ | refine qqe ?_ | refine qqd ?_ _)); exact BK287.out) hb)
         have n3_ := Aside0.mk (qqj (by repeat (first | (with_reducible first | exact HB.out | apply qqg | apply qqa | apply qqf | refine qqh ?_ GE287.out) | exact HB.out)) hb)
         have n4_ := Aside0.mk (hbox)
         have n5_ := Aside0.mk ((by rw [hg]; exact (qqk (by repeat (first | (with_reducible first | exact HB.out | apply qqg | apply qqa | apply qqf | refine qqh ?_ GE287.out) | exact HB.out))) : w.heap.size ≤ gb302))
         have n6_ := Aside0.mk ((by rw [hg]; exact (qqk (by repeat (first | (with_reducible first | exact HB.out | apply qqg | apply qqa | apply qqf | refine qqh ?_ GE287.out) | exact HB.out))) : w.heap.size ≤ gb302))
         have n7_ := Aside0.mk ((by rw [hg]; exact Nat.ne_of_lt (blk_lt (g := gb287) (o := .cells #[.int .i64 0, .int .i64 0, .int .i64 0, .int .i64 0, .int .i64 0, .int .i64 0] 27 (0, 0)) (by (with_reducible repeat (first | refine qqc ?_ _ | refine qqe ?_ | refine qqd ?_ _)); exact BK287.out)) : gb287 ≠ gb302))
         have n8_ := Aside0.mk ((by rw [hg]; exact Nat.ne_of_gt (blk_lt (g := gb287) (o := .cells #[.int .i64 0, .int .i64 0, .int .i64 0, .int .i64 0, .int .i64 0, .int .i64 0] 27 (0, 0)) (by (with_reducible repeat (first | refine qqc ?_ _ | refine qqe ?_ | refine qqd ?_ _)); exact BK287.out)) : gb302 ≠ gb287))
         clear HO290
         clear HO295
         clear BK287
         clear HB
         have HO290 := n0_
         have HO295 := n1_
         have BK287 := n2_
         have HB := n3_
         have BK302 := n4_
         have GW302 := n5_
         have GE302 := n6_
         have NB287_302 := n7_
         have NB302_287 := n8_
         clear n0_ n1_ n2_ n3_ n4_ n5_ n6_ n7_ n8_
         clear hb hbox hg
         refine hK.out _ _ ⟨HS0_, HS1_, HS2_, HS3_, HS4_, HS5_⟩ (fun hHeld => ?_)
         clear hK K
         refine norm_ (a' := ?_) ?_ ?_
         rotate_left
         ·show Act.put _ (some 7) _ = _
          simp only [Act.put, List.setIfInBounds_toArray, List.set_cons_zero, List.set_cons_succ, qqt, qqu]
          rfl
         refine one_ (i := 23) (N := none) #[true, true, true, true, true, true, true, true, true, true, true, true, true, true, true, true, true, true, true, true, true, true, true, true] rfl rfl (one_of HT_.out (by kernel_rfl)) (by decide) (fun K hK => ?_)
         have hs39 : w38.cell? ⟨gb302, 0, none⟩ = some (.int .i64 0) := (qqr BK302.out 0).trans rfl
         have hfs39 := qqs BK302.out 0
         have hns39_0 := NB287_302.out
         have hms39_0 := NB302_287.out
         have hs40 : w38.cell? ⟨gb302, 1, none⟩ = some (.int .i64 0) := (qqr BK302.out 1).trans rfl
         have hfs40 := qqs BK302.out 1
         have hns40_0 := NB287_302.out
         have hms40_0 := NB302_287.out
         have hs41 : w38.cell? ⟨gb302, 2, none⟩ = some (.int .i64 0) := (qqr BK302.out 2).trans rfl
         have hfs41 := qqs BK302.out 2
         have hns41_0 := NB287_302.out
         have hms41_0 := NB302_287.out
         have hs42 : w38.cell? ⟨gb302, 3, none⟩ = some (.int .i64 0) := (qqr BK302.out 3).trans rfl
         have hfs42 := qqs BK302.out 3
         have hns42_0 := NB287_302.out
         have hms42_0 := NB302_287.out
         have hs43 : w38.cell? ⟨gb302, 4, none⟩ = some (.int .i64 0) := (qqr BK302.out 4).trans rfl
         have hfs43 := qqs BK302.out 4
         have hns43_0 := NB287_302.out
         have hms43_0 := NB302_287.out
         have hs44 : w38.cell? ⟨gb302, 5, none⟩ = some (.int .i64 0) := (qqr BK302.out 5).trans rfl
         have hfs44 := qqs BK302.out 5
         have hns44_0 := NB287_302.out
         have hms44_0 := NB302_287.out
         refine skip_ (w1 := ?_) (by rfl) rfl ?_ ?_
         rotate_left
         ·go_simp
          rfl
         refine hK.out _ _ ⟨((qql (p := ⟨gb302, _, none⟩) (by first | exact Kd.own_blk (Kd.R_ne HO295.out BK302.out (by decide)) | (rw [qqb]; exact Kd.own_blk (Kd.R_ne HO295.out BK302.out (by decide))) | (show (Addr.add _ _).block ≠ _; rw [qqb]; exact Kd.own_blk (Kd.R_ne HO295.out BK302.out (by decide))) | (dsimp only; exact Kd.own_blk (Kd.R_ne HO295.out BK302.out (by decide)))) _).trans (((qql (p := ⟨gb302, _, none⟩) (by first | exact Kd.own_blk (Kd.R_ne HO295.out BK302.out (by decide)) | (rw [qqb]; exact Kd.own_blk (Kd.R_ne HO295.out BK302.out (by decide))) | (show (Addr.add _ _).block ≠ _; rw [qqb]; exact Kd.own_blk (Kd.R_ne HO295.out BK302.out (by decide))) | (dsimp only; exact Kd.own_blk (Kd.R_ne HO295.out BK302.out (by decide)))) _).trans (((qql (p := ⟨gb302, _, none⟩) (by first | exact Kd.own_blk (Kd.R_ne HO295.out BK302.out (by decide)) | (rw [qqb]; exact Kd.own_blk (Kd.R_ne HO295.out BK302.out (by decide))) | (show (Addr.add _ _).block ≠ _; rw [qqb]; exact Kd.own_blk (Kd.R_ne HO295.out BK302.out (by decide))) | (dsimp only; exact Kd.own_blk (Kd.R_ne HO295.out BK302.out (by decide)))) _).trans (((qql (p := ⟨gb302, _, none⟩) (by first | exact Kd.own_blk (Kd.R_ne HO295.out BK302.out (by decide)) | (rw [qqb]; exact Kd.own_blk (Kd.R_ne HO295.out BK302.out (by decide))) | (show (Addr.add _ _).block ≠ _; rw [qqb]; exact Kd.own_blk (Kd.R_ne HO295.out BK302.out (by decide))) | (dsimp only; exact Kd.own_blk (Kd.R_ne HO295.out BK302.out (by decide)))) _).trans (((qql (p := ⟨gb302, _, none⟩) (by first | exact Kd.own_blk (Kd.R_ne HO295.out BK302.out (by decide)) | (rw [qqb]; exact Kd.own_blk (Kd.R_ne HO295.out BK302.out (by decide))) | (show (Addr.add _ _).block ≠ _; rw [qqb]; exact Kd.own_blk (Kd.R_ne HO295.out BK302.out (by decide))) | (dsimp only; exact Kd.own_blk (Kd.R_ne HO295.out BK302.out (by decide)))) _).trans (((qql (p := ⟨gb302, _, none⟩) (by first | exact Kd.own_blk (Kd.R_ne HO295.out BK302.out (by decide)) | (rw [qqb]; exact Kd.own_blk (Kd.R_ne HO295.out BK302.out (by decide))) | (show (Addr.add _ _).block ≠ _; rw [qqb]; exact Kd.own_blk (Kd.R_ne HO295.out BK302.out (by decide))) | (dsimp only; exact Kd.own_blk (Kd.R_ne HO295.out BK302.out (by decide)))) _).trans (hHeld.1)))))))))))), ((qql (p := ⟨gb302, _, none⟩) (by first | exact Kd.own_blk (Kd.R_ne HO295.out BK302.out (by decide)) | (rw [qqb]; exact Kd.own_blk (Kd.R_ne HO295.out BK302.out (by decide))) | (show (Addr.add _ _).block ≠ _; rw [qqb]; exact Kd.own_blk (Kd.R_ne HO295.out BK302.out (by decide))) | (dsimp only; exact Kd.own_blk (Kd.R_ne HO295.out BK302.out (by decide)))) _).trans (((qql (p := ⟨gb302, _, none⟩) (by first | exact Kd.own_blk (Kd.R_ne HO295.out BK302.out (by decide)) | (rw [qqb]; exact Kd.own_blk (Kd.R_ne HO295.out BK302.out (by decide))) | (show (Addr.add _ _).block ≠ _; rw [qqb]; exact Kd.own_blk (Kd.R_ne HO295.out BK302.out (by decide))) | (dsimp only; exact Kd.own_blk (Kd.R_ne HO295.out BK302.out (by decide)))) _).trans (((qql (p := ⟨gb302, _, none⟩) (by first | exact Kd.own_blk (Kd.R_ne HO295.out BK302.out (by decide)) | (rw [qqb]; exact Kd.own_blk (Kd.R_ne HO295.out BK302.out (by decide))) | (show (Addr.add _ _).block ≠ _; rw [qqb]; exact Kd.own_blk (Kd.R_ne HO295.out BK302.out (by decide))) | (dsimp only; exact Kd.own_blk (Kd.R_ne HO295.out BK302.out (by decide)))) _).trans (((qql (p := ⟨gb302, _, none⟩) (by first | exact Kd.own_blk (Kd.R_ne HO295.out BK302.out (by decide)) | (rw [qqb]; exact Kd.own_blk (Kd.R_ne HO295.out BK302.out (by decide))) | (show (Addr.add _ _).block ≠ _; rw [qqb]; exact Kd.own_blk (Kd.R_ne HO295.out BK302.out (by decide))) | (dsimp only; exact Kd.own_blk (Kd.R_ne HO295.out BK302.out (by decide)))) _).trans (((qql (p := ⟨gb302, _, none⟩) (by first | exact Kd.own_blk (Kd.R_ne HO295.out BK302.out (by decide)) | (rw [qqb]; exact Kd.own_blk (Kd.R_ne HO295.out BK302.out (by decide))) | (show (Addr.add _ _).block ≠ _; rw [qqb]; exact Kd.own_blk (Kd.R_ne HO295.out BK302.out (by decide))) | (dsimp only; exact Kd.own_blk (Kd.R_ne HO295.out BK302.out (by decide)))) _).trans (((qql (p := ⟨gb302, _, none⟩) (by first | exact Kd.own_blk (Kd.R_ne HO295.out BK302.out (by decide)) | (rw [qqb]; exact Kd.own_blk (Kd.R_ne HO295.out BK302.out (by decide))) | (show (Addr.add _ _).block ≠ _; rw [qqb]; exact Kd.own_blk (Kd.R_ne HO295.out BK302.out (by decide))) | (dsimp only; exact Kd.own_blk (Kd.R_ne HO295.out BK302.out (by decide)))) _).trans (hHeld.2.1)))))))))))), ((qql (p := ⟨gb302, _, none⟩) (by first | exact Kd.own_blk (Kd.R_ne HO295.out BK302.out (by decide)) | (rw [qqb]; exact Kd.own_blk (Kd.R_ne HO295.out BK302.out (by decide))) | (show (Addr.add _ _).block ≠ _; rw [qqb]; exact Kd.own_blk (Kd.R_ne HO295.out BK302.out (by decide))) | (dsimp only; exact Kd.own_blk (Kd.R_ne HO295.out BK302.out (by decide)))) _).trans (((qql (p := ⟨gb302, _, none⟩) (by first | exact Kd.own_blk (Kd.R_ne HO295.out BK302.out (by decide)) | (rw [qqb]; exact Kd.own_blk (Kd.R_ne HO295.out BK302.out (by decide))) | (show (Addr.add _ _).block ≠ _; rw [qqb]; exact Kd.own_blk (Kd.R_ne HO295.out BK302.out (by decide))) | (dsimp only; exact Kd.own_blk (Kd.R_ne HO295.out BK302.out (by decide)))) _).trans (((qql (p := ⟨gb302, _, none⟩) (by first | exact Kd.own_blk (Kd.R_ne HO295.out BK302.out (by decide)) | (rw [qqb]; exact Kd.own_blk (Kd.R_ne HO295.out BK302.out (by decide))) | (show (Addr.add _ _).block ≠ _; rw [qqb]; exact Kd.own_blk (Kd.R_ne HO295.out BK302.out (by decide))) | (dsimp only; exact Kd.own_blk (Kd.R_ne HO295.out BK302.out (by decide)))) _).trans (((qql (p := ⟨gb302, _, none⟩) (by first | exact Kd.own_blk (Kd.R_ne HO295.out BK302.out (by decide)) | (rw [qqb]; exact Kd.own_blk (Kd.R_ne HO295.out BK302.out (by decide))) | (show (Addr.add _ _).block ≠ _; rw [qqb]; exact Kd.own_blk (Kd.R_ne HO295.out BK302.out (by decide))) | (dsimp only; exact Kd.own_blk (Kd.R_ne HO295.out BK302.out (by decide)))) _).trans (((qql (p := ⟨gb302, _, none⟩) (by first | exact Kd.own_blk (Kd.R_ne HO295.out BK302.out (by decide)) | (rw [qqb]; exact Kd.own_blk (Kd.R_ne HO295.out BK302.out (by decide))) | (show (Addr.add _ _).block ≠ _; rw [qqb]; exact Kd.own_blk (Kd.R_ne HO295.out BK302.out (by decide))) | (dsimp only; exact Kd.own_blk (Kd.R_ne HO295.out BK302.out (by decide)))) _).trans (((qql (p := ⟨gb302, _, none⟩) (by first | exact Kd.own_blk (Kd.R_ne HO295.out BK302.out (by decide)) | (rw [qqb]; exact Kd.own_blk (Kd.R_ne HO295.out BK302.out (by decide))) | (show (Addr.add _ _).block ≠ _; rw [qqb]; exact Kd.own_blk (Kd.R_ne HO295.out BK302.out (by decide))) | (dsimp only; exact Kd.own_blk (Kd.R_ne HO295.out BK302.out (by decide)))) _).trans (hHeld.2.2.1)))))))))))), ((qql (p := ⟨gb302, _, none⟩) (by first | exact Kd.own_blk (Kd.R_ne HO295.out BK302.out (by decide)) | (rw [qqb]; exact Kd.own_blk (Kd.R_ne HO295.out BK302.out (by decide))) | (show (Addr.add _ _).block ≠ _; rw [qqb]; exact Kd.own_blk (Kd.R_ne HO295.out BK302.out (by decide))) | (dsimp only; exact Kd.own_blk (Kd.R_ne HO295.out BK302.out (by decide)))) _).trans (((qql (p := ⟨gb302, _, none⟩) (by first | exact Kd.own_blk (Kd.R_ne HO295.out BK302.out (by decide)) | (rw [qqb]; exact Kd.own_blk (Kd.R_ne HO295.out BK302.out (by decide))) | (show (Addr.add _ _).block ≠ _; rw [qqb]; exact Kd.own_blk (Kd.R_ne HO295.out BK302.out (by decide))) | (dsimp only; exact Kd.own_blk (Kd.R_ne HO295.out BK302.out (by decide)))) _).trans (((qql (p := ⟨gb302, _, none⟩) (by first | exact Kd.own_blk (Kd.R_ne HO295.out BK302.out (by decide)) | (rw [qqb]; exact Kd.own_blk (Kd.R_ne HO295.out BK302.out (by decide))) | (show (Addr.add _ _).block ≠ _; rw [qqb]; exact Kd.own_blk (Kd.R_ne HO295.out BK302.out (by decide))) | (dsimp only; exact Kd.own_blk (Kd.R_ne HO295.out BK302.out (by decide)))) _).trans (((qql (p := ⟨gb302, _, none⟩) (by first | exact Kd.own_blk (Kd.R_ne HO295.out BK302.out (by decide)) | (rw [qqb]; exact Kd.own_blk (Kd.R_ne HO295.out BK302.out (by decide))) | (show (Addr.add _ _).block ≠ _; rw [qqb]; exact Kd.own_blk (Kd.R_ne HO295.out BK302.out (by decide))) | (dsimp only; exact Kd.own_blk (Kd.R_ne HO295.out BK302.out (by decide)))) _).trans (((qql (p := ⟨gb302, _, none⟩) (by first | exact Kd.own_blk (Kd.R_ne HO295.out BK302.out (by decide)) | (rw [qqb]; exact Kd.own_blk (Kd.R_ne HO295.out BK302.out (by decide))) | (show (Addr.add _ _).block ≠ _; rw [qqb]; exact Kd.own_blk (Kd.R_ne HO295.out BK302.out (by decide))) | (dsimp only; exact Kd.own_blk (Kd.R_ne HO295.out BK302.out (by decide)))) _).trans (((qql (p := ⟨gb302, _, none⟩) (by first | exact Kd.own_blk (Kd.R_ne HO295.out BK302.out (by decide)) | (rw [qqb]; exact Kd.own_blk (Kd.R_ne HO295.out BK302.out (by decide))) | (show (Addr.add _ _).block ≠ _; rw [qqb]; exact Kd.own_blk (Kd.R_ne HO295.out BK302.out (by decide))) | (dsimp only; exact Kd.own_blk (Kd.R_ne HO295.out BK302.out (by decide)))) _).trans (hHeld.2.2.2.1)))))))))))), ((qql (p := ⟨gb302, _, none⟩) (by first | exact Kd.own_blk (Kd.R_ne HO295.out BK302.out (by decide)) | (rw [qqb]; exact Kd.own_blk (Kd.R_ne HO295.out BK302.out (by decide))) | (show (Addr.add _ _).block ≠ _; rw [qqb]; exact Kd.own_blk (Kd.R_ne HO295.out BK302.out (by decide))) | (dsimp only; exact Kd.own_blk (Kd.R_ne HO295.out BK302.out (by decide)))) _).trans (((qql (p := ⟨gb302, _, none⟩) (by first | exact Kd.own_blk (Kd.R_ne HO295.out BK302.out (by decide)) | (rw [qqb]; exact Kd.own_blk (Kd.R_ne HO295.out BK302.out (by decide))) | (show (Addr.add _ _).block ≠ _; rw [qqb]; exact Kd.own_blk (Kd.R_ne HO295.out BK302.out (by decide))) | (dsimp only; exact Kd.own_blk (Kd.R_ne HO295.out BK302.out (by decide)))) _).trans (((qql (p := ⟨gb302, _, none⟩) (by first | exact Kd.own_blk (Kd.R_ne HO295.out BK302.out (by decide)) | (rw [qqb]; exact Kd.own_blk (Kd.R_ne HO295.out BK302.out (by decide))) | (show (Addr.add _ _).block ≠ _; rw [qqb]; exact Kd.own_blk (Kd.R_ne HO295.out BK302.out (by decide))) | (dsimp only; exact Kd.own_blk (Kd.R_ne HO295.out BK302.out (by decide)))) _).trans (((qql (p := ⟨gb302, _, none⟩) (by first | exact Kd.own_blk (Kd.R_ne HO295.out BK302.out (by decide)) | (rw [qqb]; exact Kd.own_blk (Kd.R_ne HO295.out BK302.out (by decide))) | (show (Addr.add _ _).block ≠ _; rw [qqb]; exact Kd.own_blk (Kd.R_ne HO295.out BK302.out (by decide))) | (dsimp only; exact Kd.own_blk (Kd.R_ne HO295.out BK302.out (by decide)))) _).trans (((qql (p := ⟨gb302, _, none⟩) (by first | exact Kd.own_blk (Kd.R_ne HO295.out BK302.out (by decide)) | (rw [qqb]; exact Kd.own_blk (Kd.R_ne HO295.out BK302.out (by decide))) | (show (Addr.add _ _).block ≠ _; rw [qqb]; exact Kd.own_blk (Kd.R_ne HO295.out BK302.out (by decide))) | (dsimp only; exact Kd.own_blk (Kd.R_ne HO295.out BK302.out (by decide)))) _).trans (((qql (p := ⟨gb302, _, none⟩) (by first | exact Kd.own_blk (Kd.R_ne HO295.out BK302.out (by decide)) | (rw [qqb]; exact Kd.own_blk (Kd.R_ne HO295.out BK302.out (by decide))) | (show (Addr.add _ _).block ≠ _; rw [qqb]; exact Kd.own_blk (Kd.R_ne HO295.out BK302.out (by decide))) | (dsimp only; exact Kd.own_blk (Kd.R_ne HO295.out BK302.out (by decide)))) _).trans (hHeld.2.2.2.2.1)))))))))))), ((qql (p := ⟨gb302, _, none⟩) (by first | exact Kd.own_blk (Kd.R_ne HO295.out BK302.out (by decide)) | (rw [qqb]; exact Kd.own_blk (Kd.R_ne HO295.out BK302.out (by decide))) | (show (Addr.add _ _).block ≠ _; rw [qqb]; exact Kd.own_blk (Kd.R_ne HO295.out BK302.out (by decide))) | (dsimp only; exact Kd.own_blk (Kd.R_ne HO295.out BK302.out (by decide)))) _).trans (((qql (p := ⟨gb302, _, none⟩) (by first | exact Kd.own_blk (Kd.R_ne HO295.out BK302.out (by decide)) | (rw [qqb]; exact Kd.own_blk (Kd.R_ne HO295.out BK302.out (by decide))) | (show (Addr.add _ _).block ≠ _; rw [qqb]; exact Kd.own_blk (Kd.R_ne HO295.out BK302.out (by decide))) | (dsimp only; exact Kd.own_blk (Kd.R_ne HO295.out BK302.out (by decide)))) _).trans (((qql (p := ⟨gb302, _, none⟩) (by first | exact Kd.own_blk (Kd.R_ne HO295.out BK302.out (by decide)) | (rw [qqb]; exact Kd.own_blk (Kd.R_ne HO295.out BK302.out (by decide))) | (show (Addr.add _ _).block ≠ _; rw [qqb]; exact Kd.own_blk (Kd.R_ne HO295.out BK302.out (by decide))) | (dsimp only; exact Kd.own_blk (Kd.R_ne HO295.out BK302.out (by decide)))) _).trans (((qql (p := ⟨gb302, _, none⟩) (by first | exact Kd.own_blk (Kd.R_ne HO295.out BK302.out (by decide)) | (rw [qqb]; exact Kd.own_blk (Kd.R_ne HO295.out BK302.out (by decide))) | (show (Addr.add _ _).block ≠ _; rw [qqb]; exact Kd.own_blk (Kd.R_ne HO295.out BK302.out (by decide))) | (dsimp only; exact Kd.own_blk (Kd.R_ne HO295.out BK302.out (by decide)))) _).trans (((qql (p := ⟨gb302, _, none⟩) (by first | exact Kd.own_blk (Kd.R_ne HO295.out BK302.out (by decide)) | (rw [qqb]; exact Kd.own_blk (Kd.R_ne HO295.out BK302.out (by decide))) | (show (Addr.add _ _).block ≠ _; rw [qqb]; exact Kd.own_blk (Kd.R_ne HO295.out BK302.out (by decide))) | (dsimp only; exact Kd.own_blk (Kd.R_ne HO295.out BK302.out (by decide)))) _).trans (((qql (p := ⟨gb302, _, none⟩) (by first | exact Kd.own_blk (Kd.R_ne HO295.out BK302.out (by decide)) | (rw [qqb]; exact Kd.own_blk (Kd.R_ne HO295.out BK302.out (by decide))) | (show (Addr.add _ _).block ≠ _; rw [qqb]; exact Kd.own_blk (Kd.R_ne HO295.out BK302.out (by decide))) | (dsimp only; exact Kd.own_blk (Kd.R_ne HO295.out BK302.out (by decide)))) _).trans (hHeld.2.2.2.2.2))))))))))))⟩ (fun hHeld => ?_)
         clear hK K
         refine done_ (done_of HT_.out (by kernel_rfl)) ?_
         have hnb45 := NB302_287.out
         have hnc45 := NB287_302.out
         obtain ⟨hcz46_0, hcz46_1, hcz46_2, hcz46_3, hcz46_4, hcz46_5⟩ := bcells6 BK302.out
         obtain ⟨hfz46_0, hfz46_1, hfz46_2, hfz46_3, hfz46_4, hfz46_5⟩ := bfrozen6 BK302.out
         try go_wp2_with (first | ((with_reducible refine qqv (f := 20) rfl ?_); refine goesL_ (some 43) rfl rfl Tryd.func20 (by kernel_rfl) rfl #[.agg #[.int .i64 (rd t291 0), .int .i64 (rd t291 1), .int .i64 (wrap64 ((rd t291 2) - 1)), .int .i64 (rd t291 3), .int .i64 (rd t291 4), .int .i64 (rd t291 5)]] rfl (by (try simp only [List.map_toArray, List.map_cons, List.map_nil]); first | done | rfl | (simp only [List.length_drop, List.length_take]; rfl)) ?_; (with_reducible refine (wayfinderref04_May.calls k (rd t291 0) (rd t291 1) (wrap64 ((rd t291 2) - 1)) (rd t291 3) (rd t291 4) (rd t291 5) false _ A10.out).mono ?_); rintro e w47 ⟨rfl, hb⟩; refine ⟨_, rfl, ?_⟩; have n0_ := Aside0.mk (Kd.R_below (by (with_reducible repeat (first | apply Kd.R_alloc | apply Kd.R_drewN | apply Kd.R_drew)); exact (Kd.R_mono (Kd.R_far (p := ⟨gb302, 5, none⟩) (Kd.R_far (p := ⟨gb302, 4, none⟩) (Kd.R_far (p := ⟨gb302, 3, none⟩) (Kd.R_far (p := ⟨gb302, 2, none⟩) (Kd.R_far (p := ⟨gb302, 1, none⟩) (Kd.R_far (p := ⟨gb302, 0, none⟩) (Kd.R_types HO290.out BK302.out (by decide)) (fun _ hk => hk.2) (.int .i64 (rd t291 0))) (fun _ hk => hk.2) (.int .i64 (rd t291 1))) (fun _ hk => hk.2) (.int .i64 (wrap64 ((rd t291 2) - 1)))) (fun _ hk => hk.2) (.int .i64 (rd t291 3))) (fun _ hk => hk.2) (.int .i64 (rd t291 4))) (fun _ hk => hk.2) (.int .i64 (rd t291 5))) (fun _ h_ => h_.1))) hb); have n1_ := Aside0.mk (Kd.R_below (by (with_reducible repeat (first | apply Kd.R_alloc | apply Kd.R_drewN | apply Kd.R_drew)); exact (Kd.R_mono (Kd.R_far (p := ⟨gb302, 5, none⟩) (Kd.R_far (p := ⟨gb302, 4, none⟩) (Kd.R_far (p := ⟨gb302, 3, none⟩) (Kd.R_far (p := ⟨gb302, 2, none⟩) (Kd.R_far (p := ⟨gb302, 1, none⟩) (Kd.R_far (p := ⟨gb302, 0, none⟩) (Kd.R_types HO295.out BK302.out (by decide)) (fun _ hk => hk.2) (.int .i64 (rd t291 0))) (fun _ hk => hk.2) (.int .i64 (rd t291 1))) (fun _ hk => hk.2) (.int .i64 (wrap64 ((rd t291 2) - 1)))) (fun _ hk => hk.2) (.int .i64 (rd t291 3))) (fun _ hk => hk.2) (.int .i64 (rd t291 4))) (fun _ hk => hk.2) (.int .i64 (rd t291 5))) (fun _ h_ => h_.1))) hb); have n2_ := Aside0.mk (qqm (g := gb287) (o := .cells #[.int .i64 0, .int .i64 0, .int .i64 0, .int .i64 0, .int .i64 0, .int .i64 0] 27 (0, 0)) (by (with_reducible repeat (first | refine qqc ?_ _ | refine qqe ?_ | refine qqd ?_ _)); refine qqp ?_ NB287_302.out _; (with_reducible repeat (first | refine qqc ?_ _ | refine qqe ?_ | refine qqd ?_ _)); refine qqp ?_ NB287_302.out _; (with_reducible repeat (first | refine qqc ?_ _ | refine qqe ?_ | refine qqd ?_ _)); refine qqp ?_ NB287_302.out _; (with_reducible repeat (first | refine qqc ?_ _ | refine qqe ?_ | refine qqd ?_ _)); refine qqp ?_ NB287_302.out _; (with_reducible repeat (first | refine qqc ?_ _ | refine qqe ?_ | refine qqd ?_ _)); refine qqp ?_ NB287_302.out _; (with_reducible repeat (first | refine qqc ?_ _ | refine qqe ?_ | refine qqd ?_ _)); refine qqp ?_ NB287_302.out _; (with_reducible repeat (first | refine qqc ?_ _ | refine qqe ?_ | refine qqd ?_ _)); exact BK287.out) hb); have n3_ := Aside0.mk (qqm (g := gb302) (o := .cells #[.int .i64 (rd t291 0), .int .i64 (rd t291 1), .int .i64 (wrap64 ((rd t291 2) - 1)), .int .i64 (rd t291 3), .int .i64 (rd t291 4), .int .i64 (rd t291 5)] 27 (0, 0)) (by (with_reducible repeat (first | refine qqc ?_ _ | refine qqe ?_ | refine qqd ?_ _)); refine qqi (cs := #[.int .i64 (rd t291 0), .int .i64 (rd t291 1), .int .i64 (wrap64 ((rd t291 2) - 1)), .int .i64 (rd t291 3), .int .i64 (rd t291 4), .int .i64 0]) ?_ 5 _ rfl; (with_reducible repeat (first | refine qqc ?_ _ | refine qqe ?_ | refine qqd ?_ _)); refine qqi (cs := #[.int .i64 (rd t291 0), .int .i64 (rd t291 1), .int .i64 (wrap64 ((rd t291 2) - 1)), .int .i64 (rd t291 3), .int .i64 0, .int .i64 0]) ?_ 4 _ rfl; (with_reducible repeat (first | refine qqc ?_ _ | refine qqe ?_ | refine qqd ?_ _)); refine qqi (cs := #[.int .i64 (rd t291 0), .int .i64 (rd t291 1), .int .i64 (wrap64 ((rd t291 2) - 1)), .int .i64 0, .int .i64 0, .int .i64 0]) ?_ 3 _ rfl; (with_reducible repeat (first | refine qqc ?_ _ | refine qqe ?_ | refine qqd ?_ _)); refine qqi (cs := #[.int .i64 (rd t291 0), .int .i64 (rd t291 1), .int .i64 0, .int .i64 0, .int .i64 0, .int .i64 0]) ?_ 2 _ rfl; (with_reducible repeat (first | refine qqc ?_ _ | refine qqe ?_ | refine qqd ?_ _)); refine qqi (cs := #[.int .i64 (rd t291 0), .int .i64 0, .int .i64 0, .int .i64 0, .int .i64 0, .int .i64 0]) ?_ 1 _ rfl; (with_reducible repeat (first | refine qqc ?_ _ | refine qqe ?_ | refine qqd ?_ _)); refine qqi (cs := #[.int .i64 0, .int .i64 0, .int .i64 0, .int .i64 0, .int .i64 0, .int .i64 0]) ?_ 0 _ rfl; (with_reducible repeat (first | refine qqc ?_ _ | refine qqe ?_ | refine qqd ?_ _)); exact BK302.out) hb); have n4_ := Aside0.mk (qqj (by repeat (first | (with_reducible first | exact HB.out | apply qqg | apply qqa | apply qqf | refine qqh ?_ GE287.out | refine qqh ?_ GE302.out) | exact HB.out)) hb); clear HO290; clear HO295; clear BK287; clear BK302; clear HB; have HO290 := n0_; have HO295 := n1_; have BK287 := n2_; have BK302 := n3_; have HB := n4_; clear n0_ n1_ n2_ n3_ n4_; (try clear hb); (try clear hb2); (try clear hk); (try clear hi); obtain ⟨hcz48_0, hcz48_1, hcz48_2, hcz48_3, hcz48_4, hcz48_5⟩ := bcells6 BK287.out; obtain ⟨hfz48_0, hfz48_1, hfz48_2, hfz48_3, hfz48_4, hfz48_5⟩ := bfrozen6 BK287.out))
         refine bodyPost_ret (results_ct rfl _ _ gb287 27 #[.int .i64 0, .int .i64 0, .int .i64 0, .int .i64 0, .int .i64 0, .int .i64 0] (0, 0) _ rfl (by (with_reducible repeat (first | refine qqc ?_ _ | refine qqe ?_ | refine qqd ?_ _)); refine qqi (cs := #[.int .i64 0, .int .i64 0, .int .i64 0, .int .i64 0, .int .i64 0, .int .i64 0]) ?_ 5 _ rfl; (with_reducible repeat (first | refine qqc ?_ _ | refine qqe ?_ | refine qqd ?_ _)); refine qqi (cs := #[.int .i64 0, .int .i64 0, .int .i64 0, .int .i64 0, .int .i64 0, .int .i64 0]) ?_ 4 _ rfl; (with_reducible repeat (first | refine qqc ?_ _ | refine qqe ?_ | refine qqd ?_ _)); refine qqi (cs := #[.int .i64 0, .int .i64 0, .int .i64 0, .int .i64 0, .int .i64 0, .int .i64 0]) ?_ 3 _ rfl; (with_reducible repeat (first | refine qqc ?_ _ | refine qqe ?_ | refine qqd ?_ _)); refine qqi (cs := #[.int .i64 0, .int .i64 0, .int .i64 0, .int .i64 0, .int .i64 0, .int .i64 0]) ?_ 2 _ rfl; (with_reducible repeat (first | refine qqc ?_ _ | refine qqe ?_ | refine qqd ?_ _)); refine qqi (cs := #[.int .i64 0, .int .i64 0, .int .i64 0, .int .i64 0, .int .i64 0, .int .i64 0]) ?_ 1 _ rfl; (with_reducible repeat (first | refine qqc ?_ _ | refine qqe ?_ | refine qqd ?_ _)); refine qqi (cs := #[.int .i64 0, .int .i64 0, .int .i64 0, .int .i64 0, .int .i64 0, .int .i64 0]) ?_ 0 _ rfl; (with_reducible repeat (first | refine qqc ?_ _ | refine qqe ?_ | refine qqd ?_ _)); exact BK287.out) Tryd.underlying27 rfl (by kernel_rfl)) rfl ?_
         exact ⟨by first | rfl | (simp [qqo, qqn] <;> rfl) | (simp [*, qqo, qqn] <;> rfl), by repeat (first | (with_reducible first | exact HB.out | apply qqg | apply qqa | apply qqf | refine qqh ?_ GE287.out | refine qqh ?_ GE302.out) | exact HB.out)⟩
       ·rw [if_neg c9] at H
        exact absurd H (by simp)
      ·rw [if_neg c8] at H
       exact absurd H (by simp)
     ·rw [if_neg c7] at H
      exact absurd H (by simp)
    ·rw [if_neg c6] at H
     exact absurd H (by simp)
   ·rw [if_neg c5] at H
    exact absurd H (by simp)
  ·rw [if_neg c4] at H
   exact absurd H (by simp)
 ·rw [if_neg c3] at H
  have c3b0 : (t293 == 0) = false := beq_eq_false_iff_ne.mpr c3
  have c3b1 : (t293 != 0) = true := bne_iff_ne.mpr c3
  simp only [Option.some.injEq, Prod.mk.injEq] at H
  obtain ⟨rfl, rfl, rfl, rfl, rfl, rfl, rfl⟩ := H
  go_enter Tryd.func26, Tryd.ntmps26
  go_wp2_with (first | ((with_reducible refine qqx (N := 2) rfl ?_); refine box_event ?hg (N := 2) ?hd (cs := #[.int .i64 0, .int .i64 0, .int .i64 0, .int .i64 0, .int .i64 0, .int .i64 0]) (t := 27) ?hr ?_; (case hd => rfl); (case hg => rfl); (case hr => first | (go_simp; done) | (go_simp; rfl)); intro gb287 hg w49 hbox hb; have n0_ := Aside0.mk (qqj (by repeat (first | (with_reducible first | exact HB.out | apply qqg | apply qqa | apply qqf) | exact HB.out)) hb); have n1_ := Aside0.mk (hbox); have n2_ := Aside0.mk ((by rw [hg]; exact (qqk (by repeat (first | (with_reducible first | exact HB.out | apply qqg | apply qqa | apply qqf) | exact HB.out))) : w.heap.size ≤ gb287)); have n3_ := Aside0.mk ((by rw [hg]; exact (qqk (by repeat (first | (with_reducible first | exact HB.out | apply qqg | apply qqa | apply qqf) | exact HB.out))) : w.heap.size ≤ gb287)); clear HB; have HB := n0_; have BK287 := n1_; have GW287 := n2_; have GE287 := n3_; clear n0_ n1_ n2_ n3_; clear hb hbox hg) | ((with_reducible refine qqx (N := 11) rfl ?_); refine Kd.R_lit (Kd.int .i64) _ 3 ?hg (N := 11) ?hd (xs := ([4, 1, 1, 1, 1, 1] : List Int)) (inner := [.int .i64 4, .int .i64 1, .int .i64 1, .int .i64 1, .int .i64 1, .int .i64 1]) (ok := fun _ => True) (okp := fun _ => True) ?hr ?hp (fun _ hk => hk) trivial (Below.refl _ _) (Nat.le_refl _) (by simp) ?_; (case hd => rfl); (case hg => rfl); (case hr => first | (go_simp; done) | (go_simp; rfl)); (case hp => exact (Reps.one (show Kd.M (Kd.int .i64) _ _ _ 4 [.int .i64 4] from rfl) (Reps.one (show Kd.M (Kd.int .i64) _ _ _ 1 [.int .i64 1] from rfl) (Reps.one (show Kd.M (Kd.int .i64) _ _ _ 1 [.int .i64 1] from rfl) (Reps.one (show Kd.M (Kd.int .i64) _ _ _ 1 [.int .i64 1] from rfl) (Reps.one (show Kd.M (Kd.int .i64) _ _ _ 1 [.int .i64 1] from rfl) (Reps.one (show Kd.M (Kd.int .i64) _ _ _ 1 [.int .i64 1] from rfl) (Reps.none _ _)))))))); intro v289 w50 ho51 hb hg_ hnew_; clear hg_ hnew_; (first | rw [← Ny288.out] at ho51 | (simp only [Int.reduceToNat] at ho51; rw [← Ny288.out] at ho51)); have n0_ := Aside0.mk (Kd.R_lower ho51 (qqk (by repeat (first | (with_reducible first | exact HB.out | apply qqg | apply qqa | apply qqf | refine qqh ?_ GE287.out) | exact HB.out)))); have n1_ := Aside0.mk (qqm (g := gb287) (o := .cells #[.int .i64 0, .int .i64 0, .int .i64 0, .int .i64 0, .int .i64 0, .int .i64 0] 27 (0, 0)) (by (with_reducible repeat (first | refine qqc ?_ _ | refine qqe ?_ | refine qqd ?_ _)); exact BK287.out) hb); have n2_ := Aside0.mk (qqj (by repeat (first | (with_reducible first | exact HB.out | apply qqg | apply qqa | apply qqf | refine qqh ?_ GE287.out) | exact HB.out)) hb); clear BK287; clear HB; have HO290 := n0_; have BK287 := n1_; have HB := n2_; clear n0_ n1_ n2_; clear hb ho51; obtain ⟨Ao52, co52, eo52⟩ := Kd.R_slice HO290.out; subst eo52) | ((with_reducible refine qqv (f := 25) rfl ?_); refine goesL_ (some 12) rfl rfl Tryd.func25 (by kernel_rfl) rfl #[.slice A0 l0.length c0, .slice Ao52 y288.length co52] rfl (by (try simp only [List.map_toArray, List.map_cons, List.map_nil]); first | done | rfl | (simp only [List.length_drop, List.length_take]; rfl)) ?_; (with_reducible refine (wayfinderref02_GetAll.calls k _ _ l0 _ _ y288 t291 t292 t293 _ ?side1 ?side2 ?side3 ?side4 A2.out).mono ?_); (case side1 => repeat (first | exact (Kd.C_below HR0.out HB.out) | (with_reducible refine Kd.C_alloc ?_ _) | (with_reducible refine Kd.C_drewN ?_ _) | (with_reducible refine Kd.C_drew ?_))); (case side2 => exact HC0.out); (case side3 => repeat (first | exact (Kd.R_reads' HO290.out).2.2 | (with_reducible refine Kd.C_alloc ?_ _) | (with_reducible refine Kd.C_drewN ?_ _) | (with_reducible refine Kd.C_drew ?_))); (case side4 => exact (Kd.R_reads' HO290.out).2.1); rintro e w53 ⟨v294, rfl, ho0, hb⟩; refine ⟨_, rfl, ?_⟩; have n0_ := Aside0.mk (Kd.R_elder' (by (with_reducible repeat (first | apply Kd.R_alloc | apply Kd.R_drewN | apply Kd.R_drew)); exact HO290.out) (Kd.R_base ho0) hb); have n1_ := Aside0.mk (Kd.R_lower (Kd.R_new' ho0 (Kd.R_lt (by (with_reducible repeat (first | apply Kd.R_alloc | apply Kd.R_drewN | apply Kd.R_drew)); exact HO290.out))) (qqk (by repeat (first | (with_reducible first | exact HB.out | apply qqg | apply qqa | apply qqf | refine qqh ?_ GE287.out) | exact HB.out)))); have n2_ := Aside0.mk (qqm (g := gb287) (o := .cells #[.int .i64 0, .int .i64 0, .int .i64 0, .int .i64 0, .int .i64 0, .int .i64 0] 27 (0, 0)) (by (with_reducible repeat (first | refine qqc ?_ _ | refine qqe ?_ | refine qqd ?_ _)); exact BK287.out) hb); have n3_ := Aside0.mk (qqj (by repeat (first | (with_reducible first | exact HB.out | apply qqg | apply qqa | apply qqf | refine qqh ?_ GE287.out) | exact HB.out)) hb); clear HO290; clear BK287; clear HB; have HO290 := n0_; have HO295 := n1_; have BK287 := n2_; have HB := n3_; clear n0_ n1_ n2_ n3_; (try clear hb); (try clear hb2); (try clear hk); (try clear hi); (try clear ho0); obtain ⟨hcz54_0, hcz54_1, hcz54_2, hcz54_3, hcz54_4, hcz54_5⟩ := bcells6 BK287.out; obtain ⟨hfz54_0, hfz54_1, hfz54_2, hfz54_3, hfz54_4, hfz54_5⟩ := bfrozen6 BK287.out))
  refine bodyPost_ret (results_ct rfl _ _ gb287 27 #[.int .i64 0, .int .i64 0, .int .i64 0, .int .i64 0, .int .i64 0, .int .i64 0] (0, 0) _ rfl (by (with_reducible repeat (first | refine qqc ?_ _ | refine qqe ?_ | refine qqd ?_ _)); refine qqi (cs := #[.int .i64 0, .int .i64 0, .int .i64 0, .int .i64 0, .int .i64 0, .int .i64 0]) ?_ 5 _ rfl; (with_reducible repeat (first | refine qqc ?_ _ | refine qqe ?_ | refine qqd ?_ _)); refine qqi (cs := #[.int .i64 0, .int .i64 0, .int .i64 0, .int .i64 0, .int .i64 0, .int .i64 0]) ?_ 4 _ rfl; (with_reducible repeat (first | refine qqc ?_ _ | refine qqe ?_ | refine qqd ?_ _)); refine qqi (cs := #[.int .i64 0, .int .i64 0, .int .i64 0, .int .i64 0, .int .i64 0, .int .i64 0]) ?_ 3 _ rfl; (with_reducible repeat (first | refine qqc ?_ _ | refine qqe ?_ | refine qqd ?_ _)); refine qqi (cs := #[.int .i64 0, .int .i64 0, .int .i64 0, .int .i64 0, .int .i64 0, .int .i64 0]) ?_ 2 _ rfl; (with_reducible repeat (first | refine qqc ?_ _ | refine qqe ?_ | refine qqd ?_ _)); refine qqi (cs := #[.int .i64 0, .int .i64 0, .int .i64 0, .int .i64 0, .int .i64 0, .int .i64 0]) ?_ 1 _ rfl; (with_reducible repeat (first | refine qqc ?_ _ | refine qqe ?_ | refine qqd ?_ _)); refine qqi (cs := #[.int .i64 0, .int .i64 0, .int .i64 0, .int .i64 0, .int .i64 0, .int .i64 0]) ?_ 0 _ rfl; (with_reducible repeat (first | refine qqc ?_ _ | refine qqe ?_ | refine qqd ?_ _)); exact BK287.out) Tryd.underlying27 rfl (by kernel_rfl)) rfl ?_
  exact ⟨by first | rfl | (simp [qqo, qqn] <;> rfl) | (simp [*, qqo, qqn] <;> rfl), by repeat (first | (with_reducible first | exact HB.out | apply qqg | apply qqa | apply qqf | refine qqh ?_ GE287.out) | exact HB.out)⟩
end Go.Proofs.YtdmajldpebooeaaDoor.All
