/- Contracts of Go functions that this seat comes to, each with a plain function that tells its answers; conditions: those that each contract names. Written by a program of this session (wip/print) over the print words. -/
import Derived.Test.YtpaoofkahhhjaaaDoorQ3Allx0
import Derived.Test.YtpaoofkahhhjaaaDoorQ3Allx10
import Derived.Test.YtpaoofkahhhjaaaDoorQ3Allx16
namespace Go.Proofs.YtpaoofkahhhjaaaDoor.All
open Go.RowKit Go.Proofs.YtpaoofkahhhjaaaDoorW.PrintWords Go.Proofs.YtpaoofkahhhjaaaDoorW.PrintLast Go.Proofs.YtpaoofkahhhjaaaDoorW.PrintMore
attribute [local go_sem] max2_int min2_int max_two min_two max_three min_three max_four min_four
set_option linter.unusedVariables false
set_option linter.unusedSimpArgs false
def wayfinderref04_Get.f (k : Nat) (l0 : List Int) : Option (Int × Int × Int × Int × Int × Int × Int) := (wayfinderref02_GetAll.f k l0 (([4, 1, 1, 1, 1, 1] : List Int))).bind fun Q3 => (if Q3.2.2 = 0 then (if 0 < (Q3.1.length : Int) then (if 1 < (Q3.1.length : Int) then (if 2 < (Q3.1.length : Int) then (if 3 < (Q3.1.length : Int) then (if 4 < (Q3.1.length : Int) then (if 5 < (Q3.1.length : Int) then ((wayfinderref04_May.f k (rd Q3.1 0) (rd Q3.1 1) (wrap64 ((rd Q3.1 2) - 1)) (rd Q3.1 3) (rd Q3.1 4) (rd Q3.1 5)).bind fun t333 => (if t333 = true then (some (rd Q3.1 0, rd Q3.1 1, wrap64 ((rd Q3.1 2) - 1), rd Q3.1 3, rd Q3.1 4, rd Q3.1 5, 0)) else (some (0, 0, 0, 0, 0, 0, 2)))) else (none)) else (none)) else (none)) else (none)) else (none)) else (none)) else (some (0, 0, 0, 0, 0, 0, Q3.2.2)))
theorem wayfinderref04_Get.mono : ∀ a0 k, LeO (wayfinderref04_Get.f k a0) (wayfinderref04_Get.f (k + 1) a0) := by
 intro a0 k
 unfold wayfinderref04_Get.f
 repeat' first
   | (with_reducible exact wayfinderref02_GetAll.mono _ _ _)
   | (with_reducible exact wayfinderref04_May.mono _ _ _ _ _ _ _)
   | (with_reducible exact LeO.refl _)
   | (with_reducible exact LeO.none _)
   | (with_reducible refine LeO.ite ?_ ?_)
   | (with_reducible refine LeO.bind ?_ (fun _ => ?_))
   | exact wayfinderref02_GetAll.mono _ _ _
   | exact wayfinderref04_May.mono _ _ _ _ _ _ _
   | exact LeO.none _
   | refine LeO.ite ?_ ?_
   | refine LeO.bind ?_ (fun _ => ?_)
def wayfinderref04_Get.T4 : Bool × List (List Nat × List Nat) := (true, [([], []), ([0], [0]), ([1], [1]), ([], []), ([3], [3]), ([4], [4]), ([2, 5], [2, 5]), ([], []), ([7], [7]), ([8], [8]), ([9], [9]), ([], []), ([11], [11]), ([12], [12]), ([], []), ([14], [14]), ([15], [15]), ([], []), ([17], [17]), ([18], [18]), ([16, 19], [16, 19]), ([6, 10, 13, 20], [6, 10, 13, 20]), ([], []), ([22, 21, 0, 1, 2, 3, 4, 5, 6, 7, 8, 9, 10, 11, 12, 13, 14, 15, 16, 17, 18, 19, 20, 21, 22], [21, 22])])
def wayfinderref04_Get.B4 : List Nat := [0, 1, 3, 0, 8, 24, 63, 0, 128, 384, 896, 0, 2048, 6144, 0, 16384, 49152, 0, 131072, 393216, 1032192, 2097151, 0, 8388607]
theorem wayfinderref04_Get.tab4 : rtab .any (opsOf Tryd.f41 4) = wayfinderref04_Get.T4 := by kernel_rfl
theorem wayfinderref04_Get.bits4 : waitsOk wayfinderref04_Get.T4.2 wayfinderref04_Get.B4 = true := by kernel_rfl
set_option maxHeartbeats 8000000 in
set_option maxRecDepth 100000 in
theorem wayfinderref04_Get.calls (k : Nat) (A0 : Option Addr) (c0 : Nat) (l0 : List Int) (r1 : Int) (r2 : Int) (r3 : Int) (r4 : Int) (r5 : Int) (r6 : Int) (r7 : Int) (w : World) (hr0 : Kd.C (Kd.int .u8) w A0 l0.length l0) (hc0 : l0.length ≤ c0) (h : wayfinderref04_Get.f k l0 = some (r1, r2, r3, r4, r5, r6, r7)) :
  Calls Tryd.prog 41 #[.slice A0 l0.length c0] w fun e w' => e = .returned (.tuple #[.agg #[.int .i64 r1, .int .i64 r2, .int .i64 r3, .int .i64 r4, .int .i64 r5, .int .i64 r6], .int .i64 r7]) ∧ Below w.heap.size w w' := by
 have hu27 := Tryd.underlying27
 have hu23 := Tryd.underlying23
 have hu25 := Tryd.underlying25
 have HR0 := Aside0.mk hr0
 have HC0 := Aside0.mk hc0
 clear hr0 hc0
 have HB := Aside0.mk (Below.refl w.heap.size w)
 have H : ((wayfinderref02_GetAll.f k l0 (([4, 1, 1, 1, 1, 1] : List Int))).bind fun Q3 => (if Q3.2.2 = 0 then (if 0 < (Q3.1.length : Int) then (if 1 < (Q3.1.length : Int) then (if 2 < (Q3.1.length : Int) then (if 3 < (Q3.1.length : Int) then (if 4 < (Q3.1.length : Int) then (if 5 < (Q3.1.length : Int) then ((wayfinderref04_May.f k (rd Q3.1 0) (rd Q3.1 1) (wrap64 ((rd Q3.1 2) - 1)) (rd Q3.1 3) (rd Q3.1 4) (rd Q3.1 5)).bind fun t333 => (if t333 = true then (some (rd Q3.1 0, rd Q3.1 1, wrap64 ((rd Q3.1 2) - 1), rd Q3.1 3, rd Q3.1 4, rd Q3.1 5, 0)) else (some (0, 0, 0, 0, 0, 0, 2)))) else (none)) else (none)) else (none)) else (none)) else (none)) else (none)) else (some (0, 0, 0, 0, 0, 0, Q3.2.2)))) = some (r1, r2, r3, r4, r5, r6, r7) := h
 clear h
 obtain ⟨y318, hy318⟩ : ∃ y_ : List Int, y_ = (([4, 1, 1, 1, 1, 1] : List Int)) := ⟨_, rfl⟩
 replace H : ((wayfinderref02_GetAll.f k l0 y318).bind fun Q3 => (if Q3.2.2 = 0 then (if 0 < (Q3.1.length : Int) then (if 1 < (Q3.1.length : Int) then (if 2 < (Q3.1.length : Int) then (if 3 < (Q3.1.length : Int) then (if 4 < (Q3.1.length : Int) then (if 5 < (Q3.1.length : Int) then ((wayfinderref04_May.f k (rd Q3.1 0) (rd Q3.1 1) (wrap64 ((rd Q3.1 2) - 1)) (rd Q3.1 3) (rd Q3.1 4) (rd Q3.1 5)).bind fun t333 => (if t333 = true then (some (rd Q3.1 0, rd Q3.1 1, wrap64 ((rd Q3.1 2) - 1), rd Q3.1 3, rd Q3.1 4, rd Q3.1 5, 0)) else (some (0, 0, 0, 0, 0, 0, 2)))) else (none)) else (none)) else (none)) else (none)) else (none)) else (none)) else (some (0, 0, 0, 0, 0, 0, Q3.2.2)))) = some (r1, r2, r3, r4, r5, r6, r7) := by first | (rw [hy318]; with_reducible exact H) | (have H2_ := (Option.bind_some _ _).symm.trans H; rw [hy318]; with_reducible exact H2_) | (have H2_ := (Option.bind_some _ _).symm.trans H; with_reducible exact H2_) | with_reducible exact H | (rw [hy318]; exact H) | exact H
 have Ny318 := Aside0.mk hy318
 clear hy318
 replace H := Option.bind_eq_some_iff.mp H
 obtain ⟨⟨Q1, t322, t323⟩, A20, H⟩ := H
 replace H : (if t323 = 0 then (if 0 < (Q1.length : Int) then (if 1 < (Q1.length : Int) then (if 2 < (Q1.length : Int) then (if 3 < (Q1.length : Int) then (if 4 < (Q1.length : Int) then (if 5 < (Q1.length : Int) then ((wayfinderref04_May.f k (rd Q1 0) (rd Q1 1) (wrap64 ((rd Q1 2) - 1)) (rd Q1 3) (rd Q1 4) (rd Q1 5)).bind fun t333 => (if t333 = true then (some (rd Q1 0, rd Q1 1, wrap64 ((rd Q1 2) - 1), rd Q1 3, rd Q1 4, rd Q1 5, 0)) else (some (0, 0, 0, 0, 0, 0, 2)))) else (none)) else (none)) else (none)) else (none)) else (none)) else (none)) else (some (0, 0, 0, 0, 0, 0, t323))) = some (r1, r2, r3, r4, r5, r6, r7) := H
 have A2 := Aside0.mk A20
 clear A20
 by_cases c3 : t323 = 0
 ·rw [if_pos c3] at H
  have c3b0 : (t323 == 0) = true := beq_iff_eq.mpr c3
  have c3b1 : (t323 != 0) = false := bne_eq_false_iff_eq.mpr c3
  clear c3
  by_cases c4 : 0 < (Q1.length : Int)
  ·rw [if_pos c4] at H
   have c4b0 : decide (0 < (Q1.length : Int)) = true := decide_eq_true c4
   have c4b1 : decide (0 < Q1.length) = true := decide_eq_true (by omega)
   clear c4
   by_cases c5 : 1 < (Q1.length : Int)
   ·rw [if_pos c5] at H
    have c5b0 : decide (1 < (Q1.length : Int)) = true := decide_eq_true c5
    have c5b1 : decide (1 < Q1.length) = true := decide_eq_true (by omega)
    clear c5
    by_cases c6 : 2 < (Q1.length : Int)
    ·rw [if_pos c6] at H
     have c6b0 : decide (2 < (Q1.length : Int)) = true := decide_eq_true c6
     have c6b1 : decide (2 < Q1.length) = true := decide_eq_true (by omega)
     clear c6
     by_cases c7 : 3 < (Q1.length : Int)
     ·rw [if_pos c7] at H
      have c7b0 : decide (3 < (Q1.length : Int)) = true := decide_eq_true c7
      have c7b1 : decide (3 < Q1.length) = true := decide_eq_true (by omega)
      clear c7
      by_cases c8 : 4 < (Q1.length : Int)
      ·rw [if_pos c8] at H
       have c8b0 : decide (4 < (Q1.length : Int)) = true := decide_eq_true c8
       have c8b1 : decide (4 < Q1.length) = true := decide_eq_true (by omega)
       clear c8
       by_cases c9 : 5 < (Q1.length : Int)
       ·rw [if_pos c9] at H
        have c9b0 : decide (5 < (Q1.length : Int)) = true := decide_eq_true c9
        have c9b1 : decide (5 < Q1.length) = true := decide_eq_true (by omega)
        clear c9
        replace H := Option.bind_eq_some_iff.mp H
        obtain ⟨t333, A100, H⟩ := H
        replace H : (if t333 = true then (some (rd Q1 0, rd Q1 1, wrap64 ((rd Q1 2) - 1), rd Q1 3, rd Q1 4, rd Q1 5, 0)) else (some (0, 0, 0, 0, 0, 0, 2))) = some (r1, r2, r3, r4, r5, r6, r7) := H
        have A10 := Aside0.mk A100
        clear A100
        by_cases c11 : t333 = true
        ·subst c11
         have H1 : (some (rd Q1 0, rd Q1 1, wrap64 ((rd Q1 2) - 1), rd Q1 3, rd Q1 4, rd Q1 5, 0)) = some (r1, r2, r3, r4, r5, r6, r7) := by rw [if_pos rfl] at H; exact H
         clear H
         have H := H1
         clear H1
         simp only [Option.some.injEq, Prod.mk.injEq] at H
         obtain ⟨rfl, rfl, rfl, rfl, rfl, rfl, rfl⟩ := H
         go_enter Tryd.func41, Tryd.ntmps41
         try go_wp2_with (first | ((with_reducible refine qqr (N := 2) rfl ?_); refine qqw ?hg (N := 2) ?hd (cs := #[.int .i64 0, .int .i64 0, .int .i64 0, .int .i64 0, .int .i64 0, .int .i64 0]) (t := 27) ?hr ?_; (case hd => rfl); (case hg => rfl); (case hr => first | (go_simp; done) | (go_simp; rfl)); intro Qg hg w12 hbox hb; have n0_ := bst HB hb; have n1_ := Aside0.mk (hbox); have n2_ := szl HB hg; have n3_ := szl HB hg; clear HB; have HB := n0_; have Q4 := n1_; have GW317 := n2_; have GE317 := n3_; clear n0_ n1_ n2_ n3_; clear hb hbox hg) | ((with_reducible refine qqr (N := 11) rfl ?_); refine Kd.R_lit (Kd.int .i64) _ 3 ?hg (N := 11) ?hd (xs := ([4, 1, 1, 1, 1, 1] : List Int)) (inner := [.int .i64 4, .int .i64 1, .int .i64 1, .int .i64 1, .int .i64 1, .int .i64 1]) (ok := fun _ => True) (okp := fun _ => True) ?hr ?hp (fun _ hk => hk) trivial (Below.refl _ _) (Nat.le_refl _) (by simp) ?_; (case hd => rfl); (case hg => rfl); (case hr => first | (go_simp; done) | (go_simp; rfl)); (case hp => exact (Reps.one (show Kd.M (Kd.int .i64) _ _ _ 4 [.int .i64 4] from rfl) (Reps.one (show Kd.M (Kd.int .i64) _ _ _ 1 [.int .i64 1] from rfl) (Reps.one (show Kd.M (Kd.int .i64) _ _ _ 1 [.int .i64 1] from rfl) (Reps.one (show Kd.M (Kd.int .i64) _ _ _ 1 [.int .i64 1] from rfl) (Reps.one (show Kd.M (Kd.int .i64) _ _ _ 1 [.int .i64 1] from rfl) (Reps.one (show Kd.M (Kd.int .i64) _ _ _ 1 [.int .i64 1] from rfl) (Reps.none _ _)))))))); intro v319 w13 ho14 hb hg_ hnew_; clear hg_ hnew_; (first | rw [← Ny318.out] at ho14 | (simp only [Int.reduceToNat] at ho14; rw [← Ny318.out] at ho14)); have Q6 := Aside0.mk (Kd.R_lower ho14 (qqt (by repeat (first | (with_reducible first | exact HB.out | apply qqc | apply qqa | apply qqb | refine qqg ?_ GE317.out) | exact HB.out)))); replace Q4 := bbl Q4 hb; replace HB := bst HB hb; clear hb ho14; obtain ⟨Ao15, co15, eo15⟩ := Kd.R_slice Q6.out; subst eo15) | ((with_reducible refine qqo (f := 40) rfl ?_); refine goesL_ (some 12) rfl rfl Tryd.func40 (by kernel_rfl) rfl #[.slice A0 l0.length c0, .slice Ao15 y318.length co15] rfl (by (try simp only [List.map_toArray, List.map_cons, List.map_nil]); first | done | rfl | (simp only [List.length_drop, List.length_take]; rfl)) ?_; (with_reducible refine (wayfinderref02_GetAll.calls k _ _ l0 _ _ y318 Q1 t322 t323 _ ?side1 ?side2 ?side3 ?side4 A2.out).mono ?_); (case side1 => repeat (first | exact (Kd.C_below HR0.out HB.out) | (with_reducible refine Kd.C_alloc ?_ _) | (with_reducible refine Kd.C_drewN ?_ _) | (with_reducible refine Kd.C_drew ?_))); (case side2 => exact HC0.out); (case side3 => repeat (first | exact (Kd.R_reads' Q6.out).2.2 | (with_reducible refine Kd.C_alloc ?_ _) | (with_reducible refine Kd.C_drewN ?_ _) | (with_reducible refine Kd.C_drew ?_))); (case side4 => exact (Kd.R_reads' Q6.out).2.1); rintro e w16 ⟨v324, rfl, ho0, hb⟩; refine ⟨_, rfl, ?_⟩; have n0_ := Aside0.mk (Kd.R_elder' (by (with_reducible repeat (first | apply Kd.R_alloc | apply Kd.R_drewN | apply Kd.R_drew)); exact Q6.out) (Kd.R_base ho0) hb); have n1_ := Aside0.mk (Kd.R_lower (Kd.R_new' ho0 (Kd.R_lt (by (with_reducible repeat (first | apply Kd.R_alloc | apply Kd.R_drewN | apply Kd.R_drew)); exact Q6.out))) (qqt (by repeat (first | (with_reducible first | exact HB.out | apply qqc | apply qqa | apply qqb | refine qqg ?_ GE317.out) | exact HB.out)))); have n2_ := bbl Q4 hb; have n3_ := bst HB hb; clear Q6; clear Q4; clear HB; have Q6 := n0_; have Q8 := n1_; have Q4 := n2_; have HB := n3_; clear n0_ n1_ n2_ n3_; (try clear hb); (try clear hk); (try clear ho0)))
         replace Q6 := Aside0.mk (Kd.R_drew Q6.out)
         replace Q8 := Aside0.mk (Kd.R_drew Q8.out)
         replace Q4 := Aside0.mk (qqf Q4.out)
         replace HB := Aside0.mk (qqb HB.out)
         obtain ⟨Ao18, co18, eo18⟩ := Kd.R_slice Q8.out
         (first | subst eo18 | (injection eo18 with f1_ f2_ f3_; have f4_ := f1_.symm; have f5_ := f3_.symm; clear f1_ f2_ f3_; subst f4_; subst f5_))
         have p326 : 0 ≤ (0 : Int) := (by omega)
         have q326 : 0 < (Q1.length : Int) := of_decide_eq_true (by first | (with_reducible assumption) | assumption)
         obtain ⟨Q9, e326, Qa⟩ := Kd.at_int (Kd.R_reads' Q8.out).2.2 0 p326 q326
         cases e326
         have qi326 : (0 < Q1.length) = True := eq_true (by omega)
         (try rw [show ((0 : Int)).toNat = 0 from rfl] at Qa)
         (try rw [Addr.add_zero'] at Qa)
         replace p326 := eq_true p326
         replace q326 := eq_true q326
         have p327 : 0 ≤ (1 : Int) := (by omega)
         have q327 : 1 < (Q1.length : Int) := of_decide_eq_true (by first | (with_reducible assumption) | assumption)
         obtain ⟨ad327, e327, Qb⟩ := Kd.at_int (Kd.R_reads' Q8.out).2.2 1 p327 q327
         obtain rfl : Q9 = ad327 := (by injection e327)
         (try simp only [show (1 : Int).toNat = 1 from rfl, Nat.reduceMul, Nat.reduceEqDiff, Go.Addr.add, ↓reduceIte] at Qb)
         have qi327 : (1 < Q1.length) = True := eq_true (by omega)
         (try rw [show ((1 : Int)).toNat = 1 from rfl] at Qb)
         replace p327 := eq_true p327
         replace q327 := eq_true q327
         have p328 : 0 ≤ (2 : Int) := (by omega)
         have q328 : 2 < (Q1.length : Int) := of_decide_eq_true (by first | (with_reducible assumption) | assumption)
         obtain ⟨ad328, e328, Qc⟩ := Kd.at_int (Kd.R_reads' Q8.out).2.2 2 p328 q328
         obtain rfl : Q9 = ad328 := (by injection e328)
         (try simp only [show (2 : Int).toNat = 2 from rfl, Nat.reduceMul, Nat.reduceEqDiff, Go.Addr.add, ↓reduceIte] at Qc)
         have qi328 : (2 < Q1.length) = True := eq_true (by omega)
         (try rw [show ((2 : Int)).toNat = 2 from rfl] at Qc)
         replace p328 := eq_true p328
         replace q328 := eq_true q328
         have p329 : 0 ≤ (3 : Int) := (by omega)
         have q329 : 3 < (Q1.length : Int) := of_decide_eq_true (by first | (with_reducible assumption) | assumption)
         obtain ⟨ad329, e329, Qd⟩ := Kd.at_int (Kd.R_reads' Q8.out).2.2 3 p329 q329
         obtain rfl : Q9 = ad329 := (by injection e329)
         (try simp only [show (3 : Int).toNat = 3 from rfl, Nat.reduceMul, Nat.reduceEqDiff, Go.Addr.add, ↓reduceIte] at Qd)
         have qi329 : (3 < Q1.length) = True := eq_true (by omega)
         (try rw [show ((3 : Int)).toNat = 3 from rfl] at Qd)
         replace p329 := eq_true p329
         replace q329 := eq_true q329
         have p330 : 0 ≤ (4 : Int) := (by omega)
         have q330 : 4 < (Q1.length : Int) := of_decide_eq_true (by first | (with_reducible assumption) | assumption)
         obtain ⟨ad330, e330, Qe⟩ := Kd.at_int (Kd.R_reads' Q8.out).2.2 4 p330 q330
         obtain rfl : Q9 = ad330 := (by injection e330)
         (try simp only [show (4 : Int).toNat = 4 from rfl, Nat.reduceMul, Nat.reduceEqDiff, Go.Addr.add, ↓reduceIte] at Qe)
         have qi330 : (4 < Q1.length) = True := eq_true (by omega)
         (try rw [show ((4 : Int)).toNat = 4 from rfl] at Qe)
         replace p330 := eq_true p330
         replace q330 := eq_true q330
         have p331 : 0 ≤ (5 : Int) := (by omega)
         have q331 : 5 < (Q1.length : Int) := of_decide_eq_true (by first | (with_reducible assumption) | assumption)
         obtain ⟨ad331, e331, Qf⟩ := Kd.at_int (Kd.R_reads' Q8.out).2.2 5 p331 q331
         obtain rfl : Q9 = ad331 := (by injection e331)
         (try simp only [show (5 : Int).toNat = 5 from rfl, Nat.reduceMul, Nat.reduceEqDiff, Go.Addr.add, ↓reduceIte] at Qf)
         have qi331 : (5 < Q1.length) = True := eq_true (by omega)
         (try rw [show ((5 : Int)).toNat = 5 from rfl] at Qf)
         replace p331 := eq_true p331
         replace q331 := eq_true q331
         refine start_ (n := 24) (S := fun w' => w'.cell? Q9 = some (.int .i64 (rd Q1 0)) ∧ w'.cell? ⟨Q9.block, Q9.off + 1, none⟩ = some (.int .i64 (rd Q1 1)) ∧ w'.cell? ⟨Q9.block, Q9.off + 2, none⟩ = some (.int .i64 (rd Q1 2)) ∧ w'.cell? ⟨Q9.block, Q9.off + 3, none⟩ = some (.int .i64 (rd Q1 3)) ∧ w'.cell? ⟨Q9.block, Q9.off + 4, none⟩ = some (.int .i64 (rd Q1 4)) ∧ w'.cell? ⟨Q9.block, Q9.off + 5, none⟩ = some (.int .i64 (rd Q1 5))) (ds := []) #[false, false, false, false, false, false, false, false, false, false, false, false, false, false, false, false, false, false, false, false, false, false, false, false] (by kernel_rfl) rfl rfl ⟨Qa, Qb, Qc, Qd, Qe, Qf⟩ (fun hHeld => ?_); refine with_tabW wayfinderref04_Get.tab4 wayfinderref04_Get.bits4 (fun HT_ HW_ => ?_)
         generalize w16.drew = w17 at Q6 Q8 Q4 HB Qa Qb Qc Qd Qe Qf hHeld ⊢
         refine qqy (i := 0) (N := some 20) (v := ?_) (a' := ?_) #[true, false, false, false, false, false, false, false, false, false, false, false, false, false, false, false, false, false, false, false, false, false, false, false] rfl rfl (qqp HT_.out (by kernel_rfl)) (fun _ _ _ h => h) (Or.inl ⟨by rfl, ?_⟩) ?_ ?_
         rotate_left
         ·intro w'
          go_simp
          with_reducible rfl
         rotate_left
         ·simp only [Act.put, qsA, qsB, qsC, qqs, qqu]
          rfl
         refine qqy (i := 1) (N := some 21) (v := ?_) (a' := ?_) #[true, true, false, false, false, false, false, false, false, false, false, false, false, false, false, false, false, false, false, false, false, false, false, false] rfl rfl (qqp HT_.out (by kernel_rfl)) (fun _ _ _ h => h) (Or.inl ⟨by rfl, ?_⟩) ?_ ?_
         rotate_left
         ·intro w'
          go_simp
          with_reducible rfl
         rotate_left
         ·simp only [Act.put, qsA, qsB, qsC, qqs, qqu]
          rfl
         refine qqy (i := 3) (N := some 23) (v := ?_) (a' := ?_) #[true, true, false, true, false, false, false, false, false, false, false, false, false, false, false, false, false, false, false, false, false, false, false, false] rfl rfl (qqp HT_.out (by kernel_rfl)) (fun _ _ _ h => h) (Or.inl ⟨by rfl, ?_⟩) ?_ ?_
         rotate_left
         ·intro w'
          go_simp
          with_reducible rfl
         rotate_left
         ·simp only [Act.put, qsA, qsB, qsC, qqs, qqu]
          rfl
         refine qqy (i := 4) (N := some 24) (v := ?_) (a' := ?_) #[true, true, false, true, true, false, false, false, false, false, false, false, false, false, false, false, false, false, false, false, false, false, false, false] rfl rfl (qqp HT_.out (by kernel_rfl)) (fun _ _ _ h => h) (Or.inl ⟨by rfl, ?_⟩) ?_ ?_
         rotate_left
         ·intro w'
          go_simp
          with_reducible rfl
         rotate_left
         ·simp only [Act.put, qsA, qsB, qsC, qqs, qqu]
          rfl
         refine qqy (i := 7) (N := some 27) (v := ?_) (a' := ?_) #[true, true, false, true, true, false, false, true, false, false, false, false, false, false, false, false, false, false, false, false, false, false, false, false] rfl rfl (qqp HT_.out (by kernel_rfl)) (fun _ _ _ h => h) (Or.inl ⟨by rfl, ?_⟩) ?_ ?_
         rotate_left
         ·intro w'
          go_simp
          with_reducible rfl
         rotate_left
         ·simp only [Act.put, qsA, qsB, qsC, qqs, qqu]
          rfl
         refine qqy (i := 8) (N := some 28) (v := ?_) (a' := ?_) #[true, true, false, true, true, false, false, true, true, false, false, false, false, false, false, false, false, false, false, false, false, false, false, false] rfl rfl (qqp HT_.out (by kernel_rfl)) (fun _ _ _ h => h) (Or.inl ⟨by rfl, ?_⟩) ?_ ?_
         rotate_left
         ·intro w'
          go_simp
          with_reducible rfl
         rotate_left
         ·simp only [Act.put, qsA, qsB, qsC, qqs, qqu]
          rfl
         refine qqy (i := 11) (N := some 31) (v := ?_) (a' := ?_) #[true, true, false, true, true, false, false, true, true, false, false, true, false, false, false, false, false, false, false, false, false, false, false, false] rfl rfl (qqp HT_.out (by kernel_rfl)) (fun _ _ _ h => h) (Or.inl ⟨by rfl, ?_⟩) ?_ ?_
         rotate_left
         ·intro w'
          go_simp
          with_reducible rfl
         rotate_left
         ·simp only [Act.put, qsA, qsB, qsC, qqs, qqu]
          rfl
         refine qqy (i := 12) (N := some 32) (v := ?_) (a' := ?_) #[true, true, false, true, true, false, false, true, true, false, false, true, true, false, false, false, false, false, false, false, false, false, false, false] rfl rfl (qqp HT_.out (by kernel_rfl)) (fun _ _ _ h => h) (Or.inl ⟨by rfl, ?_⟩) ?_ ?_
         rotate_left
         ·intro w'
          go_simp
          with_reducible rfl
         rotate_left
         ·simp only [Act.put, qsA, qsB, qsC, qqs, qqu]
          rfl
         refine qqy (i := 14) (N := some 34) (v := ?_) (a' := ?_) #[true, true, false, true, true, false, false, true, true, false, false, true, true, false, true, false, false, false, false, false, false, false, false, false] rfl rfl (qqp HT_.out (by kernel_rfl)) (fun _ _ _ h => h) (Or.inl ⟨by rfl, ?_⟩) ?_ ?_
         rotate_left
         ·intro w'
          go_simp
          with_reducible rfl
         rotate_left
         ·simp only [Act.put, qsA, qsB, qsC, qqs, qqu]
          rfl
         refine qqy (i := 15) (N := some 35) (v := ?_) (a' := ?_) #[true, true, false, true, true, false, false, true, true, false, false, true, true, false, true, true, false, false, false, false, false, false, false, false] rfl rfl (qqp HT_.out (by kernel_rfl)) (fun _ _ _ h => h) (Or.inl ⟨by rfl, ?_⟩) ?_ ?_
         rotate_left
         ·intro w'
          go_simp
          with_reducible rfl
         rotate_left
         ·simp only [Act.put, qsA, qsB, qsC, qqs, qqu]
          rfl
         refine qqy (i := 17) (N := some 37) (v := ?_) (a' := ?_) #[true, true, false, true, true, false, false, true, true, false, false, true, true, false, true, true, false, true, false, false, false, false, false, false] rfl rfl (qqp HT_.out (by kernel_rfl)) (fun _ _ _ h => h) (Or.inl ⟨by rfl, ?_⟩) ?_ ?_
         rotate_left
         ·intro w'
          go_simp
          with_reducible rfl
         rotate_left
         ·simp only [Act.put, qsA, qsB, qsC, qqs, qqu]
          rfl
         refine qqy (i := 18) (N := some 38) (v := ?_) (a' := ?_) #[true, true, false, true, true, false, false, true, true, false, false, true, true, false, true, true, false, true, true, false, false, false, false, false] rfl rfl (qqp HT_.out (by kernel_rfl)) (fun _ _ _ h => h) (Or.inl ⟨by rfl, ?_⟩) ?_ ?_
         rotate_left
         ·intro w'
          go_simp
          with_reducible rfl
         rotate_left
         ·simp only [Act.put, qsA, qsB, qsC, qqs, qqu]
          rfl
         refine take_ (i := 2) (N := some 22) (v := ?_) (a' := ?_) #[true, true, true, true, true, false, false, true, true, false, false, true, true, false, true, true, false, true, true, false, false, false, false, false] rfl rfl (take_ofW HT_.out HW_.out (by kernel_rfl)) (fun _ _ _ h => h) (Or.inl ⟨by rfl, ?_⟩) hHeld ?_ ?_
         rotate_left
         ·rintro w' ⟨s0, s1, s2, s3, s4, s5⟩
          go_simp
          with_reducible rfl
         rotate_left
         ·simp only [Act.put, qsA, qsB, qsC, qqs, qqu]
          rfl
         refine take_ (i := 5) (N := some 25) (v := ?_) (a' := ?_) #[true, true, true, true, true, true, false, true, true, false, false, true, true, false, true, true, false, true, true, false, false, false, false, false] rfl rfl (take_ofW HT_.out HW_.out (by kernel_rfl)) (fun _ _ _ h => h) (Or.inl ⟨by rfl, ?_⟩) hHeld ?_ ?_
         rotate_left
         ·rintro w' ⟨s0, s1, s2, s3, s4, s5⟩
          go_simp
          with_reducible rfl
         rotate_left
         ·simp only [Act.put, qsA, qsB, qsC, qqs, qqu]
          rfl
         refine qqy (i := 6) (N := some 26) (v := ?_) (a' := ?_) #[true, true, true, true, true, true, true, true, true, false, false, true, true, false, true, true, false, true, true, false, false, false, false, false] rfl rfl (qqp HT_.out (by kernel_rfl)) (fun _ _ _ h => h) (Or.inl ⟨by rfl, ?_⟩) ?_ ?_
         rotate_left
         ·intro w'
          go_simp
          with_reducible rfl
         rotate_left
         ·simp only [Act.put, qsA, qsB, qsC, qqs, qqu]
          rfl
         refine take_ (i := 9) (N := some 29) (v := ?_) (a' := ?_) #[true, true, true, true, true, true, true, true, true, true, false, true, true, false, true, true, false, true, true, false, false, false, false, false] rfl rfl (take_ofW HT_.out HW_.out (by kernel_rfl)) (fun _ _ _ h => h) (Or.inl ⟨by rfl, ?_⟩) hHeld ?_ ?_
         rotate_left
         ·rintro w' ⟨s0, s1, s2, s3, s4, s5⟩
          go_simp
          with_reducible rfl
         rotate_left
         ·simp only [Act.put, qsA, qsB, qsC, qqs, qqu]
          rfl
         refine qqy (i := 10) (N := some 30) (v := ?_) (a' := ?_) #[true, true, true, true, true, true, true, true, true, true, true, true, true, false, true, true, false, true, true, false, false, false, false, false] rfl rfl (qqp HT_.out (by kernel_rfl)) (fun _ _ _ h => h) (Or.inl ⟨by rfl, ?_⟩) ?_ ?_
         rotate_left
         ·intro w'
          go_simp
          with_reducible rfl
         rotate_left
         ·simp only [Act.put, qsA, qsB, qsC, qqs, qqu]
          rfl
         refine take_ (i := 13) (N := some 33) (v := ?_) (a' := ?_) #[true, true, true, true, true, true, true, true, true, true, true, true, true, true, true, true, false, true, true, false, false, false, false, false] rfl rfl (take_ofW HT_.out HW_.out (by kernel_rfl)) (fun _ _ _ h => h) (Or.inl ⟨by rfl, ?_⟩) hHeld ?_ ?_
         rotate_left
         ·rintro w' ⟨s0, s1, s2, s3, s4, s5⟩
          go_simp
          with_reducible rfl
         rotate_left
         ·simp only [Act.put, qsA, qsB, qsC, qqs, qqu]
          rfl
         refine take_ (i := 16) (N := some 36) (v := ?_) (a' := ?_) #[true, true, true, true, true, true, true, true, true, true, true, true, true, true, true, true, true, true, true, false, false, false, false, false] rfl rfl (take_ofW HT_.out HW_.out (by kernel_rfl)) (fun _ _ _ h => h) (Or.inl ⟨by rfl, ?_⟩) hHeld ?_ ?_
         rotate_left
         ·rintro w' ⟨s0, s1, s2, s3, s4, s5⟩
          go_simp
          with_reducible rfl
         rotate_left
         ·simp only [Act.put, qsA, qsB, qsC, qqs, qqu]
          rfl
         refine take_ (i := 19) (N := some 39) (v := ?_) (a' := ?_) #[true, true, true, true, true, true, true, true, true, true, true, true, true, true, true, true, true, true, true, true, false, false, false, false] rfl rfl (take_ofW HT_.out HW_.out (by kernel_rfl)) (fun _ _ _ h => h) (Or.inl ⟨by rfl, ?_⟩) hHeld ?_ ?_
         rotate_left
         ·rintro w' ⟨s0, s1, s2, s3, s4, s5⟩
          go_simp
          with_reducible rfl
         rotate_left
         ·simp only [Act.put, qsA, qsB, qsC, qqs, qqu]
          rfl
         refine qqy (i := 20) (N := some 40) (v := ?_) (a' := ?_) #[true, true, true, true, true, true, true, true, true, true, true, true, true, true, true, true, true, true, true, true, true, false, false, false] rfl rfl (qqp HT_.out (by kernel_rfl)) (fun _ _ _ h => h) (Or.inl ⟨by rfl, ?_⟩) ?_ ?_
         rotate_left
         ·intro w'
          go_simp
          with_reducible rfl
         rotate_left
         ·simp only [Act.put, qsA, qsB, qsC, qqs, qqu]
          rfl
         refine qqy (i := 21) (N := some 41) (v := ?_) (a' := ?_) #[true, true, true, true, true, true, true, true, true, true, true, true, true, true, true, true, true, true, true, true, true, true, false, false] rfl rfl (qqp HT_.out (by kernel_rfl)) (fun _ _ _ h => h) (Or.inl ⟨by rfl, ?_⟩) ?_ ?_
         rotate_left
         ·intro w'
          go_simp
          with_reducible rfl
         rotate_left
         ·simp only [Act.put, qsA, qsB, qsC, qqs, qqu]
          rfl
         refine one_ (i := 22) (N := some 7) #[true, true, true, true, true, true, true, true, true, true, true, true, true, true, true, true, true, true, true, true, true, true, true, false] rfl rfl (one_of HT_.out (by kernel_rfl)) (by decide) (fun K hK => ?_)
         refine box_step ?hg (N := 7) ?hd (cs := #[.int .i64 0, .int .i64 0, .int .i64 0, .int .i64 0, .int .i64 0, .int .i64 0]) (t := 27) ?hr ?_; (case hd => rfl); (case hg => rfl); (case hr => first | (go_simp; done) | (go_simp; rfl))
         intro Q0 hg w19 hbox hb
         have HS0_ := (hb.cell (World.block_lt_of_cell? _ _ (hHeld.1))).trans (hHeld.1)
         have HS1_ := (hb.cell (World.block_lt_of_cell? _ _ (hHeld.2.1))).trans (hHeld.2.1)
         have HS2_ := (hb.cell (World.block_lt_of_cell? _ _ (hHeld.2.2.1))).trans (hHeld.2.2.1)
         have HS3_ := (hb.cell (World.block_lt_of_cell? _ _ (hHeld.2.2.2.1))).trans (hHeld.2.2.2.1)
         have HS4_ := (hb.cell (World.block_lt_of_cell? _ _ (hHeld.2.2.2.2.1))).trans (hHeld.2.2.2.2.1)
         have HS5_ := (hb.cell (World.block_lt_of_cell? _ _ (hHeld.2.2.2.2.2))).trans (hHeld.2.2.2.2.2)
         have n0_ := Aside0.mk (Kd.R_below (by (with_reducible repeat (first | apply Kd.R_alloc | apply Kd.R_drewN | apply Kd.R_drew)); exact Q6.out) hb)
         have n1_ := Aside0.mk (Kd.R_below (by (with_reducible repeat (first | apply Kd.R_alloc | apply Kd.R_drewN | apply Kd.R_drew)); exact Q8.out) hb)
         have n2_ := bbl Q4 hb
         have n3_ := bst HB hb
         have n4_ := Aside0.mk (hbox)
         have n5_ := szl HB hg
         have n6_ := szl HB hg
         have n7_ := nel Q4 hg
         have n8_ := ner Q4 hg
         clear Q6
         clear Q8
         clear Q4
         clear HB
         have Q6 := n0_
         have Q8 := n1_
         have Q4 := n2_
         have HB := n3_
         have Q5 := n4_
         have GW332 := n5_
         have GE332 := n6_
         have Q2 := n7_
         have Q7 := n8_
         clear n0_ n1_ n2_ n3_ n4_ n5_ n6_ n7_ n8_
         clear hb hbox hg
         refine hK.out _ _ ⟨HS0_, HS1_, HS2_, HS3_, HS4_, HS5_⟩ (fun hHeld => ?_)
         clear hK K
         refine norm_ (a' := ?_) ?_ ?_
         rotate_left
         ·show Act.put _ (some 7) _ = _
          simp only [Act.put, qsA, qsB, qsC, qqs, qqu]
          rfl
         refine one_ (i := 23) (N := none) #[true, true, true, true, true, true, true, true, true, true, true, true, true, true, true, true, true, true, true, true, true, true, true, true] rfl rfl (one_of HT_.out (by kernel_rfl)) (by decide) (fun K hK => ?_)
         have hs20 : w19.cell? ⟨Q0, 0, none⟩ = some (.int .i64 0) := (qqq Q5.out 0).trans rfl
         have hfs20 := qqm Q5.out 0
         have hns20_0 := Q2.out
         have hms20_0 := Q7.out
         have hs21 : w19.cell? ⟨Q0, 1, none⟩ = some (.int .i64 0) := (qqq Q5.out 1).trans rfl
         have hfs21 := qqm Q5.out 1
         have hns21_0 := Q2.out
         have hms21_0 := Q7.out
         have hs22 : w19.cell? ⟨Q0, 2, none⟩ = some (.int .i64 0) := (qqq Q5.out 2).trans rfl
         have hfs22 := qqm Q5.out 2
         have hns22_0 := Q2.out
         have hms22_0 := Q7.out
         have hs23 : w19.cell? ⟨Q0, 3, none⟩ = some (.int .i64 0) := (qqq Q5.out 3).trans rfl
         have hfs23 := qqm Q5.out 3
         have hns23_0 := Q2.out
         have hms23_0 := Q7.out
         have hs24 : w19.cell? ⟨Q0, 4, none⟩ = some (.int .i64 0) := (qqq Q5.out 4).trans rfl
         have hfs24 := qqm Q5.out 4
         have hns24_0 := Q2.out
         have hms24_0 := Q7.out
         have hs25 : w19.cell? ⟨Q0, 5, none⟩ = some (.int .i64 0) := (qqq Q5.out 5).trans rfl
         have hfs25 := qqm Q5.out 5
         have hns25_0 := Q2.out
         have hms25_0 := Q7.out
         refine skip_ (w1 := ?_) (by rfl) rfl ?_ ?_
         rotate_left
         ·go_simp
          rfl
         have q0_ := Kd.own_blk (Kd.R_ne Q8.out Q5.out (by decide))
         refine hK.out _ _ ⟨((qqh (p := ⟨Q0, _, none⟩) (by first | exact q0_ | exact nbE q0_) _).trans (((qqh (p := ⟨Q0, _, none⟩) (by first | exact q0_ | exact nbE q0_) _).trans (((qqh (p := ⟨Q0, _, none⟩) (by first | exact q0_ | exact nbE q0_) _).trans (((qqh (p := ⟨Q0, _, none⟩) (by first | exact q0_ | exact nbE q0_) _).trans (((qqh (p := ⟨Q0, _, none⟩) (by first | exact q0_ | exact nbE q0_) _).trans (((qqh (p := ⟨Q0, _, none⟩) (by first | exact q0_ | exact nbE q0_) _).trans (hHeld.1)))))))))))), ((qqh (p := ⟨Q0, _, none⟩) (by first | exact q0_ | exact nbE q0_) _).trans (((qqh (p := ⟨Q0, _, none⟩) (by first | exact q0_ | exact nbE q0_) _).trans (((qqh (p := ⟨Q0, _, none⟩) (by first | exact q0_ | exact nbE q0_) _).trans (((qqh (p := ⟨Q0, _, none⟩) (by first | exact q0_ | exact nbE q0_) _).trans (((qqh (p := ⟨Q0, _, none⟩) (by first | exact q0_ | exact nbE q0_) _).trans (((qqh (p := ⟨Q0, _, none⟩) (by first | exact q0_ | exact nbE q0_) _).trans (hHeld.2.1)))))))))))), ((qqh (p := ⟨Q0, _, none⟩) (by first | exact q0_ | exact nbE q0_) _).trans (((qqh (p := ⟨Q0, _, none⟩) (by first | exact q0_ | exact nbE q0_) _).trans (((qqh (p := ⟨Q0, _, none⟩) (by first | exact q0_ | exact nbE q0_) _).trans (((qqh (p := ⟨Q0, _, none⟩) (by first | exact q0_ | exact nbE q0_) _).trans (((qqh (p := ⟨Q0, _, none⟩) (by first | exact q0_ | exact nbE q0_) _).trans (((qqh (p := ⟨Q0, _, none⟩) (by first | exact q0_ | exact nbE q0_) _).trans (hHeld.2.2.1)))))))))))), ((qqh (p := ⟨Q0, _, none⟩) (by first | exact q0_ | exact nbE q0_) _).trans (((qqh (p := ⟨Q0, _, none⟩) (by first | exact q0_ | exact nbE q0_) _).trans (((qqh (p := ⟨Q0, _, none⟩) (by first | exact q0_ | exact nbE q0_) _).trans (((qqh (p := ⟨Q0, _, none⟩) (by first | exact q0_ | exact nbE q0_) _).trans (((qqh (p := ⟨Q0, _, none⟩) (by first | exact q0_ | exact nbE q0_) _).trans (((qqh (p := ⟨Q0, _, none⟩) (by first | exact q0_ | exact nbE q0_) _).trans (hHeld.2.2.2.1)))))))))))), ((qqh (p := ⟨Q0, _, none⟩) (by first | exact q0_ | exact nbE q0_) _).trans (((qqh (p := ⟨Q0, _, none⟩) (by first | exact q0_ | exact nbE q0_) _).trans (((qqh (p := ⟨Q0, _, none⟩) (by first | exact q0_ | exact nbE q0_) _).trans (((qqh (p := ⟨Q0, _, none⟩) (by first | exact q0_ | exact nbE q0_) _).trans (((qqh (p := ⟨Q0, _, none⟩) (by first | exact q0_ | exact nbE q0_) _).trans (((qqh (p := ⟨Q0, _, none⟩) (by first | exact q0_ | exact nbE q0_) _).trans (hHeld.2.2.2.2.1)))))))))))), ((qqh (p := ⟨Q0, _, none⟩) (by first | exact q0_ | exact nbE q0_) _).trans (((qqh (p := ⟨Q0, _, none⟩) (by first | exact q0_ | exact nbE q0_) _).trans (((qqh (p := ⟨Q0, _, none⟩) (by first | exact q0_ | exact nbE q0_) _).trans (((qqh (p := ⟨Q0, _, none⟩) (by first | exact q0_ | exact nbE q0_) _).trans (((qqh (p := ⟨Q0, _, none⟩) (by first | exact q0_ | exact nbE q0_) _).trans (((qqh (p := ⟨Q0, _, none⟩) (by first | exact q0_ | exact nbE q0_) _).trans (hHeld.2.2.2.2.2))))))))))))⟩ (fun hHeld => ?_)
         clear hK K
         refine done_ (done_of HT_.out (by kernel_rfl)) ?_
         have hnb26 := Q7.out
         have hnc26 := Q2.out
         obtain ⟨_, _, _, _, _, _⟩ := bcells6 Q5.out
         obtain ⟨_, _, _, _, _, _⟩ := bfrozen6 Q5.out
         try go_wp2_with (first | ((with_reducible refine qqo (f := 44) rfl ?_); refine goesL_ (some 43) rfl rfl Tryd.func44 (by kernel_rfl) rfl #[.agg #[.int .i64 (rd Q1 0), .int .i64 (rd Q1 1), .int .i64 (wrap64 ((rd Q1 2) - 1)), .int .i64 (rd Q1 3), .int .i64 (rd Q1 4), .int .i64 (rd Q1 5)]] rfl (by (try simp only [List.map_toArray, List.map_cons, List.map_nil]); first | done | rfl | (simp only [List.length_drop, List.length_take]; rfl)) ?_; (with_reducible refine (wayfinderref04_May.calls k (rd Q1 0) (rd Q1 1) (wrap64 ((rd Q1 2) - 1)) (rd Q1 3) (rd Q1 4) (rd Q1 5) true _ A10.out).mono ?_); rintro e w28 ⟨rfl, hb⟩; refine ⟨_, rfl, ?_⟩; replace Q6 := Aside0.mk (Kd.R_below (by (with_reducible repeat (first | apply Kd.R_alloc | apply Kd.R_drewN | apply Kd.R_drew)); exact (Kd.R_mono (Kd.R_far (p := ⟨Q0, 5, none⟩) (Kd.R_far (p := ⟨Q0, 4, none⟩) (Kd.R_far (p := ⟨Q0, 3, none⟩) (Kd.R_far (p := ⟨Q0, 2, none⟩) (Kd.R_far (p := ⟨Q0, 1, none⟩) (Kd.R_far (p := ⟨Q0, 0, none⟩) (Kd.R_types Q6.out Q5.out (by decide)) (fun _ hk => hk.2) (.int .i64 (rd Q1 0))) (fun _ hk => hk.2) (.int .i64 (rd Q1 1))) (fun _ hk => hk.2) (.int .i64 (wrap64 ((rd Q1 2) - 1)))) (fun _ hk => hk.2) (.int .i64 (rd Q1 3))) (fun _ hk => hk.2) (.int .i64 (rd Q1 4))) (fun _ hk => hk.2) (.int .i64 (rd Q1 5))) (fun _ h_ => h_.1))) hb); replace Q8 := Aside0.mk (Kd.R_below (by (with_reducible repeat (first | apply Kd.R_alloc | apply Kd.R_drewN | apply Kd.R_drew)); exact (Kd.R_mono (Kd.R_far (p := ⟨Q0, 5, none⟩) (Kd.R_far (p := ⟨Q0, 4, none⟩) (Kd.R_far (p := ⟨Q0, 3, none⟩) (Kd.R_far (p := ⟨Q0, 2, none⟩) (Kd.R_far (p := ⟨Q0, 1, none⟩) (Kd.R_far (p := ⟨Q0, 0, none⟩) (Kd.R_types Q8.out Q5.out (by decide)) (fun _ hk => hk.2) (.int .i64 (rd Q1 0))) (fun _ hk => hk.2) (.int .i64 (rd Q1 1))) (fun _ hk => hk.2) (.int .i64 (wrap64 ((rd Q1 2) - 1)))) (fun _ hk => hk.2) (.int .i64 (rd Q1 3))) (fun _ hk => hk.2) (.int .i64 (rd Q1 4))) (fun _ hk => hk.2) (.int .i64 (rd Q1 5))) (fun _ h_ => h_.1))) hb); replace Q4 := Aside0.mk (blk_below (g := Qg) (o := .cells #[.int .i64 0, .int .i64 0, .int .i64 0, .int .i64 0, .int .i64 0, .int .i64 0] 27 (0, 0)) (by (with_reducible repeat (first | refine qqd ?_ _ | refine qqf ?_ | refine qqe ?_ _)); refine qql ?_ Q2.out _; (with_reducible repeat (first | refine qqd ?_ _ | refine qqf ?_ | refine qqe ?_ _)); refine qql ?_ Q2.out _; (with_reducible repeat (first | refine qqd ?_ _ | refine qqf ?_ | refine qqe ?_ _)); refine qql ?_ Q2.out _; (with_reducible repeat (first | refine qqd ?_ _ | refine qqf ?_ | refine qqe ?_ _)); refine qql ?_ Q2.out _; (with_reducible repeat (first | refine qqd ?_ _ | refine qqf ?_ | refine qqe ?_ _)); refine qql ?_ Q2.out _; (with_reducible repeat (first | refine qqd ?_ _ | refine qqf ?_ | refine qqe ?_ _)); refine qql ?_ Q2.out _; (with_reducible repeat (first | refine qqd ?_ _ | refine qqf ?_ | refine qqe ?_ _)); exact Q4.out) hb); replace Q5 := Aside0.mk (blk_below (g := Q0) (o := .cells #[.int .i64 (rd Q1 0), .int .i64 (rd Q1 1), .int .i64 (wrap64 ((rd Q1 2) - 1)), .int .i64 (rd Q1 3), .int .i64 (rd Q1 4), .int .i64 (rd Q1 5)] 27 (0, 0)) (by exact bput6 Q5.out) hb); replace HB := bst HB hb; (try clear hb); (try clear hk); obtain ⟨_, _, _, _, _, _⟩ := bcells6 Q5.out; obtain ⟨_, _, _, _, _, _⟩ := bfrozen6 Q5.out; obtain ⟨_, _, _, _, _, _⟩ := bcells6 Q4.out; obtain ⟨_, _, _, _, _, _⟩ := bfrozen6 Q4.out))
         refine bodyPost_ret (results_ct rfl _ _ Qg 27 #[.int .i64 (rd Q1 0), .int .i64 (rd Q1 1), .int .i64 (wrap64 ((rd Q1 2) - 1)), .int .i64 (rd Q1 3), .int .i64 (rd Q1 4), .int .i64 (rd Q1 5)] (0, 0) _ rfl (by exact bput6 Q4.out) Tryd.underlying27 rfl (by kernel_rfl)) rfl ?_
         exact ⟨by first | rfl | (simp [qqk, qqj] <;> rfl) | (simp [*, qqk, qqj] <;> rfl), by repeat (first | (with_reducible first | exact HB.out | apply qqc | apply qqa | apply qqb | refine qqg ?_ GE317.out | refine qqg ?_ GE332.out) | exact HB.out)⟩
        ·replace c11 := Bool.eq_false_iff.mpr c11
         subst c11
         have H1 : (some (0, 0, 0, 0, 0, 0, 2)) = some (r1, r2, r3, r4, r5, r6, r7) := by rw [if_neg (show ¬ (false = true) by decide)] at H; exact H
         clear H
         have H := H1
         clear H1
         simp only [Option.some.injEq, Prod.mk.injEq] at H
         obtain ⟨rfl, rfl, rfl, rfl, rfl, rfl, rfl⟩ := H
         go_enter Tryd.func41, Tryd.ntmps41
         try go_wp2_with (first | ((with_reducible refine qqr (N := 2) rfl ?_); refine qqw ?hg (N := 2) ?hd (cs := #[.int .i64 0, .int .i64 0, .int .i64 0, .int .i64 0, .int .i64 0, .int .i64 0]) (t := 27) ?hr ?_; (case hd => rfl); (case hg => rfl); (case hr => first | (go_simp; done) | (go_simp; rfl)); intro Qg hg w31 hbox hb; have n0_ := bst HB hb; have n1_ := Aside0.mk (hbox); have n2_ := szl HB hg; have n3_ := szl HB hg; clear HB; have HB := n0_; have Q4 := n1_; have GW317 := n2_; have GE317 := n3_; clear n0_ n1_ n2_ n3_; clear hb hbox hg) | ((with_reducible refine qqr (N := 11) rfl ?_); refine Kd.R_lit (Kd.int .i64) _ 3 ?hg (N := 11) ?hd (xs := ([4, 1, 1, 1, 1, 1] : List Int)) (inner := [.int .i64 4, .int .i64 1, .int .i64 1, .int .i64 1, .int .i64 1, .int .i64 1]) (ok := fun _ => True) (okp := fun _ => True) ?hr ?hp (fun _ hk => hk) trivial (Below.refl _ _) (Nat.le_refl _) (by simp) ?_; (case hd => rfl); (case hg => rfl); (case hr => first | (go_simp; done) | (go_simp; rfl)); (case hp => exact (Reps.one (show Kd.M (Kd.int .i64) _ _ _ 4 [.int .i64 4] from rfl) (Reps.one (show Kd.M (Kd.int .i64) _ _ _ 1 [.int .i64 1] from rfl) (Reps.one (show Kd.M (Kd.int .i64) _ _ _ 1 [.int .i64 1] from rfl) (Reps.one (show Kd.M (Kd.int .i64) _ _ _ 1 [.int .i64 1] from rfl) (Reps.one (show Kd.M (Kd.int .i64) _ _ _ 1 [.int .i64 1] from rfl) (Reps.one (show Kd.M (Kd.int .i64) _ _ _ 1 [.int .i64 1] from rfl) (Reps.none _ _)))))))); intro v319 w32 ho33 hb hg_ hnew_; clear hg_ hnew_; (first | rw [← Ny318.out] at ho33 | (simp only [Int.reduceToNat] at ho33; rw [← Ny318.out] at ho33)); have Q6 := Aside0.mk (Kd.R_lower ho33 (qqt (by repeat (first | (with_reducible first | exact HB.out | apply qqc | apply qqa | apply qqb | refine qqg ?_ GE317.out) | exact HB.out)))); replace Q4 := bbl Q4 hb; replace HB := bst HB hb; clear hb ho33; obtain ⟨Ao34, co34, eo34⟩ := Kd.R_slice Q6.out; subst eo34) | ((with_reducible refine qqo (f := 40) rfl ?_); refine goesL_ (some 12) rfl rfl Tryd.func40 (by kernel_rfl) rfl #[.slice A0 l0.length c0, .slice Ao34 y318.length co34] rfl (by (try simp only [List.map_toArray, List.map_cons, List.map_nil]); first | done | rfl | (simp only [List.length_drop, List.length_take]; rfl)) ?_; (with_reducible refine (wayfinderref02_GetAll.calls k _ _ l0 _ _ y318 Q1 t322 t323 _ ?side1 ?side2 ?side3 ?side4 A2.out).mono ?_); (case side1 => repeat (first | exact (Kd.C_below HR0.out HB.out) | (with_reducible refine Kd.C_alloc ?_ _) | (with_reducible refine Kd.C_drewN ?_ _) | (with_reducible refine Kd.C_drew ?_))); (case side2 => exact HC0.out); (case side3 => repeat (first | exact (Kd.R_reads' Q6.out).2.2 | (with_reducible refine Kd.C_alloc ?_ _) | (with_reducible refine Kd.C_drewN ?_ _) | (with_reducible refine Kd.C_drew ?_))); (case side4 => exact (Kd.R_reads' Q6.out).2.1); rintro e w35 ⟨v324, rfl, ho0, hb⟩; refine ⟨_, rfl, ?_⟩; have n0_ := Aside0.mk (Kd.R_elder' (by (with_reducible repeat (first | apply Kd.R_alloc | apply Kd.R_drewN | apply Kd.R_drew)); exact Q6.out) (Kd.R_base ho0) hb); have n1_ := Aside0.mk (Kd.R_lower (Kd.R_new' ho0 (Kd.R_lt (by (with_reducible repeat (first | apply Kd.R_alloc | apply Kd.R_drewN | apply Kd.R_drew)); exact Q6.out))) (qqt (by repeat (first | (with_reducible first | exact HB.out | apply qqc | apply qqa | apply qqb | refine qqg ?_ GE317.out) | exact HB.out)))); have n2_ := bbl Q4 hb; have n3_ := bst HB hb; clear Q6; clear Q4; clear HB; have Q6 := n0_; have Q8 := n1_; have Q4 := n2_; have HB := n3_; clear n0_ n1_ n2_ n3_; (try clear hb); (try clear hk); (try clear ho0)))
         replace Q6 := Aside0.mk (Kd.R_drew Q6.out)
         replace Q8 := Aside0.mk (Kd.R_drew Q8.out)
         replace Q4 := Aside0.mk (qqf Q4.out)
         replace HB := Aside0.mk (qqb HB.out)
         obtain ⟨Ao37, co37, eo37⟩ := Kd.R_slice Q8.out
         (first | subst eo37 | (injection eo37 with f1_ f2_ f3_; have f4_ := f1_.symm; have f5_ := f3_.symm; clear f1_ f2_ f3_; subst f4_; subst f5_))
         have p326 : 0 ≤ (0 : Int) := (by omega)
         have q326 : 0 < (Q1.length : Int) := of_decide_eq_true (by first | (with_reducible assumption) | assumption)
         obtain ⟨Q9, e326, Qa⟩ := Kd.at_int (Kd.R_reads' Q8.out).2.2 0 p326 q326
         cases e326
         have qi326 : (0 < Q1.length) = True := eq_true (by omega)
         (try rw [show ((0 : Int)).toNat = 0 from rfl] at Qa)
         (try rw [Addr.add_zero'] at Qa)
         replace p326 := eq_true p326
         replace q326 := eq_true q326
         have p327 : 0 ≤ (1 : Int) := (by omega)
         have q327 : 1 < (Q1.length : Int) := of_decide_eq_true (by first | (with_reducible assumption) | assumption)
         obtain ⟨ad327, e327, Qb⟩ := Kd.at_int (Kd.R_reads' Q8.out).2.2 1 p327 q327
         obtain rfl : Q9 = ad327 := (by injection e327)
         (try simp only [show (1 : Int).toNat = 1 from rfl, Nat.reduceMul, Nat.reduceEqDiff, Go.Addr.add, ↓reduceIte] at Qb)
         have qi327 : (1 < Q1.length) = True := eq_true (by omega)
         (try rw [show ((1 : Int)).toNat = 1 from rfl] at Qb)
         replace p327 := eq_true p327
         replace q327 := eq_true q327
         have p328 : 0 ≤ (2 : Int) := (by omega)
         have q328 : 2 < (Q1.length : Int) := of_decide_eq_true (by first | (with_reducible assumption) | assumption)
         obtain ⟨ad328, e328, Qc⟩ := Kd.at_int (Kd.R_reads' Q8.out).2.2 2 p328 q328
         obtain rfl : Q9 = ad328 := (by injection e328)
         (try simp only [show (2 : Int).toNat = 2 from rfl, Nat.reduceMul, Nat.reduceEqDiff, Go.Addr.add, ↓reduceIte] at Qc)
         have qi328 : (2 < Q1.length) = True := eq_true (by omega)
         (try rw [show ((2 : Int)).toNat = 2 from rfl] at Qc)
         replace p328 := eq_true p328
         replace q328 := eq_true q328
         have p329 : 0 ≤ (3 : Int) := (by omega)
         have q329 : 3 < (Q1.length : Int) := of_decide_eq_true (by first | (with_reducible assumption) | assumption)
         obtain ⟨ad329, e329, Qd⟩ := Kd.at_int (Kd.R_reads' Q8.out).2.2 3 p329 q329
         obtain rfl : Q9 = ad329 := (by injection e329)
         (try simp only [show (3 : Int).toNat = 3 from rfl, Nat.reduceMul, Nat.reduceEqDiff, Go.Addr.add, ↓reduceIte] at Qd)
         have qi329 : (3 < Q1.length) = True := eq_true (by omega)
         (try rw [show ((3 : Int)).toNat = 3 from rfl] at Qd)
         replace p329 := eq_true p329
         replace q329 := eq_true q329
         have p330 : 0 ≤ (4 : Int) := (by omega)
         have q330 : 4 < (Q1.length : Int) := of_decide_eq_true (by first | (with_reducible assumption) | assumption)
         obtain ⟨ad330, e330, Qe⟩ := Kd.at_int (Kd.R_reads' Q8.out).2.2 4 p330 q330
         obtain rfl : Q9 = ad330 := (by injection e330)
         (try simp only [show (4 : Int).toNat = 4 from rfl, Nat.reduceMul, Nat.reduceEqDiff, Go.Addr.add, ↓reduceIte] at Qe)
         have qi330 : (4 < Q1.length) = True := eq_true (by omega)
         (try rw [show ((4 : Int)).toNat = 4 from rfl] at Qe)
         replace p330 := eq_true p330
         replace q330 := eq_true q330
         have p331 : 0 ≤ (5 : Int) := (by omega)
         have q331 : 5 < (Q1.length : Int) := of_decide_eq_true (by first | (with_reducible assumption) | assumption)
         obtain ⟨ad331, e331, Qf⟩ := Kd.at_int (Kd.R_reads' Q8.out).2.2 5 p331 q331
         obtain rfl : Q9 = ad331 := (by injection e331)
         (try simp only [show (5 : Int).toNat = 5 from rfl, Nat.reduceMul, Nat.reduceEqDiff, Go.Addr.add, ↓reduceIte] at Qf)
         have qi331 : (5 < Q1.length) = True := eq_true (by omega)
         (try rw [show ((5 : Int)).toNat = 5 from rfl] at Qf)
         replace p331 := eq_true p331
         replace q331 := eq_true q331
         refine start_ (n := 24) (S := fun w' => w'.cell? Q9 = some (.int .i64 (rd Q1 0)) ∧ w'.cell? ⟨Q9.block, Q9.off + 1, none⟩ = some (.int .i64 (rd Q1 1)) ∧ w'.cell? ⟨Q9.block, Q9.off + 2, none⟩ = some (.int .i64 (rd Q1 2)) ∧ w'.cell? ⟨Q9.block, Q9.off + 3, none⟩ = some (.int .i64 (rd Q1 3)) ∧ w'.cell? ⟨Q9.block, Q9.off + 4, none⟩ = some (.int .i64 (rd Q1 4)) ∧ w'.cell? ⟨Q9.block, Q9.off + 5, none⟩ = some (.int .i64 (rd Q1 5))) (ds := []) #[false, false, false, false, false, false, false, false, false, false, false, false, false, false, false, false, false, false, false, false, false, false, false, false] (by kernel_rfl) rfl rfl ⟨Qa, Qb, Qc, Qd, Qe, Qf⟩ (fun hHeld => ?_); refine with_tabW wayfinderref04_Get.tab4 wayfinderref04_Get.bits4 (fun HT_ HW_ => ?_)
         generalize w35.drew = w36 at Q6 Q8 Q4 HB Qa Qb Qc Qd Qe Qf hHeld ⊢
         refine qqy (i := 0) (N := some 20) (v := ?_) (a' := ?_) #[true, false, false, false, false, false, false, false, false, false, false, false, false, false, false, false, false, false, false, false, false, false, false, false] rfl rfl (qqp HT_.out (by kernel_rfl)) (fun _ _ _ h => h) (Or.inl ⟨by rfl, ?_⟩) ?_ ?_
         rotate_left
         ·intro w'
          go_simp
          with_reducible rfl
         rotate_left
         ·simp only [Act.put, qsA, qsB, qsC, qqs, qqu]
          rfl
         refine qqy (i := 1) (N := some 21) (v := ?_) (a' := ?_) #[true, true, false, false, false, false, false, false, false, false, false, false, false, false, false, false, false, false, false, false, false, false, false, false] rfl rfl (qqp HT_.out (by kernel_rfl)) (fun _ _ _ h => h) (Or.inl ⟨by rfl, ?_⟩) ?_ ?_
         rotate_left
         ·intro w'
          go_simp
          with_reducible rfl
         rotate_left
         ·simp only [Act.put, qsA, qsB, qsC, qqs, qqu]
          rfl
         refine qqy (i := 3) (N := some 23) (v := ?_) (a' := ?_) #[true, true, false, true, false, false, false, false, false, false, false, false, false, false, false, false, false, false, false, false, false, false, false, false] rfl rfl (qqp HT_.out (by kernel_rfl)) (fun _ _ _ h => h) (Or.inl ⟨by rfl, ?_⟩) ?_ ?_
         rotate_left
         ·intro w'
          go_simp
          with_reducible rfl
         rotate_left
         ·simp only [Act.put, qsA, qsB, qsC, qqs, qqu]
          rfl
         refine qqy (i := 4) (N := some 24) (v := ?_) (a' := ?_) #[true, true, false, true, true, false, false, false, false, false, false, false, false, false, false, false, false, false, false, false, false, false, false, false] rfl rfl (qqp HT_.out (by kernel_rfl)) (fun _ _ _ h => h) (Or.inl ⟨by rfl, ?_⟩) ?_ ?_
         rotate_left
         ·intro w'
          go_simp
          with_reducible rfl
         rotate_left
         ·simp only [Act.put, qsA, qsB, qsC, qqs, qqu]
          rfl
         refine qqy (i := 7) (N := some 27) (v := ?_) (a' := ?_) #[true, true, false, true, true, false, false, true, false, false, false, false, false, false, false, false, false, false, false, false, false, false, false, false] rfl rfl (qqp HT_.out (by kernel_rfl)) (fun _ _ _ h => h) (Or.inl ⟨by rfl, ?_⟩) ?_ ?_
         rotate_left
         ·intro w'
          go_simp
          with_reducible rfl
         rotate_left
         ·simp only [Act.put, qsA, qsB, qsC, qqs, qqu]
          rfl
         refine qqy (i := 8) (N := some 28) (v := ?_) (a' := ?_) #[true, true, false, true, true, false, false, true, true, false, false, false, false, false, false, false, false, false, false, false, false, false, false, false] rfl rfl (qqp HT_.out (by kernel_rfl)) (fun _ _ _ h => h) (Or.inl ⟨by rfl, ?_⟩) ?_ ?_
         rotate_left
         ·intro w'
          go_simp
          with_reducible rfl
         rotate_left
         ·simp only [Act.put, qsA, qsB, qsC, qqs, qqu]
          rfl
         refine qqy (i := 11) (N := some 31) (v := ?_) (a' := ?_) #[true, true, false, true, true, false, false, true, true, false, false, true, false, false, false, false, false, false, false, false, false, false, false, false] rfl rfl (qqp HT_.out (by kernel_rfl)) (fun _ _ _ h => h) (Or.inl ⟨by rfl, ?_⟩) ?_ ?_
         rotate_left
         ·intro w'
          go_simp
          with_reducible rfl
         rotate_left
         ·simp only [Act.put, qsA, qsB, qsC, qqs, qqu]
          rfl
         refine qqy (i := 12) (N := some 32) (v := ?_) (a' := ?_) #[true, true, false, true, true, false, false, true, true, false, false, true, true, false, false, false, false, false, false, false, false, false, false, false] rfl rfl (qqp HT_.out (by kernel_rfl)) (fun _ _ _ h => h) (Or.inl ⟨by rfl, ?_⟩) ?_ ?_
         rotate_left
         ·intro w'
          go_simp
          with_reducible rfl
         rotate_left
         ·simp only [Act.put, qsA, qsB, qsC, qqs, qqu]
          rfl
         refine qqy (i := 14) (N := some 34) (v := ?_) (a' := ?_) #[true, true, false, true, true, false, false, true, true, false, false, true, true, false, true, false, false, false, false, false, false, false, false, false] rfl rfl (qqp HT_.out (by kernel_rfl)) (fun _ _ _ h => h) (Or.inl ⟨by rfl, ?_⟩) ?_ ?_
         rotate_left
         ·intro w'
          go_simp
          with_reducible rfl
         rotate_left
         ·simp only [Act.put, qsA, qsB, qsC, qqs, qqu]
          rfl
         refine qqy (i := 15) (N := some 35) (v := ?_) (a' := ?_) #[true, true, false, true, true, false, false, true, true, false, false, true, true, false, true, true, false, false, false, false, false, false, false, false] rfl rfl (qqp HT_.out (by kernel_rfl)) (fun _ _ _ h => h) (Or.inl ⟨by rfl, ?_⟩) ?_ ?_
         rotate_left
         ·intro w'
          go_simp
          with_reducible rfl
         rotate_left
         ·simp only [Act.put, qsA, qsB, qsC, qqs, qqu]
          rfl
         refine qqy (i := 17) (N := some 37) (v := ?_) (a' := ?_) #[true, true, false, true, true, false, false, true, true, false, false, true, true, false, true, true, false, true, false, false, false, false, false, false] rfl rfl (qqp HT_.out (by kernel_rfl)) (fun _ _ _ h => h) (Or.inl ⟨by rfl, ?_⟩) ?_ ?_
         rotate_left
         ·intro w'
          go_simp
          with_reducible rfl
         rotate_left
         ·simp only [Act.put, qsA, qsB, qsC, qqs, qqu]
          rfl
         refine qqy (i := 18) (N := some 38) (v := ?_) (a' := ?_) #[true, true, false, true, true, false, false, true, true, false, false, true, true, false, true, true, false, true, true, false, false, false, false, false] rfl rfl (qqp HT_.out (by kernel_rfl)) (fun _ _ _ h => h) (Or.inl ⟨by rfl, ?_⟩) ?_ ?_
         rotate_left
         ·intro w'
          go_simp
          with_reducible rfl
         rotate_left
         ·simp only [Act.put, qsA, qsB, qsC, qqs, qqu]
          rfl
         refine take_ (i := 2) (N := some 22) (v := ?_) (a' := ?_) #[true, true, true, true, true, false, false, true, true, false, false, true, true, false, true, true, false, true, true, false, false, false, false, false] rfl rfl (take_ofW HT_.out HW_.out (by kernel_rfl)) (fun _ _ _ h => h) (Or.inl ⟨by rfl, ?_⟩) hHeld ?_ ?_
         rotate_left
         ·rintro w' ⟨s0, s1, s2, s3, s4, s5⟩
          go_simp
          with_reducible rfl
         rotate_left
         ·simp only [Act.put, qsA, qsB, qsC, qqs, qqu]
          rfl
         refine take_ (i := 5) (N := some 25) (v := ?_) (a' := ?_) #[true, true, true, true, true, true, false, true, true, false, false, true, true, false, true, true, false, true, true, false, false, false, false, false] rfl rfl (take_ofW HT_.out HW_.out (by kernel_rfl)) (fun _ _ _ h => h) (Or.inl ⟨by rfl, ?_⟩) hHeld ?_ ?_
         rotate_left
         ·rintro w' ⟨s0, s1, s2, s3, s4, s5⟩
          go_simp
          with_reducible rfl
         rotate_left
         ·simp only [Act.put, qsA, qsB, qsC, qqs, qqu]
          rfl
         refine qqy (i := 6) (N := some 26) (v := ?_) (a' := ?_) #[true, true, true, true, true, true, true, true, true, false, false, true, true, false, true, true, false, true, true, false, false, false, false, false] rfl rfl (qqp HT_.out (by kernel_rfl)) (fun _ _ _ h => h) (Or.inl ⟨by rfl, ?_⟩) ?_ ?_
         rotate_left
         ·intro w'
          go_simp
          with_reducible rfl
         rotate_left
         ·simp only [Act.put, qsA, qsB, qsC, qqs, qqu]
          rfl
         refine take_ (i := 9) (N := some 29) (v := ?_) (a' := ?_) #[true, true, true, true, true, true, true, true, true, true, false, true, true, false, true, true, false, true, true, false, false, false, false, false] rfl rfl (take_ofW HT_.out HW_.out (by kernel_rfl)) (fun _ _ _ h => h) (Or.inl ⟨by rfl, ?_⟩) hHeld ?_ ?_
         rotate_left
         ·rintro w' ⟨s0, s1, s2, s3, s4, s5⟩
          go_simp
          with_reducible rfl
         rotate_left
         ·simp only [Act.put, qsA, qsB, qsC, qqs, qqu]
          rfl
         refine qqy (i := 10) (N := some 30) (v := ?_) (a' := ?_) #[true, true, true, true, true, true, true, true, true, true, true, true, true, false, true, true, false, true, true, false, false, false, false, false] rfl rfl (qqp HT_.out (by kernel_rfl)) (fun _ _ _ h => h) (Or.inl ⟨by rfl, ?_⟩) ?_ ?_
         rotate_left
         ·intro w'
          go_simp
          with_reducible rfl
         rotate_left
         ·simp only [Act.put, qsA, qsB, qsC, qqs, qqu]
          rfl
         refine take_ (i := 13) (N := some 33) (v := ?_) (a' := ?_) #[true, true, true, true, true, true, true, true, true, true, true, true, true, true, true, true, false, true, true, false, false, false, false, false] rfl rfl (take_ofW HT_.out HW_.out (by kernel_rfl)) (fun _ _ _ h => h) (Or.inl ⟨by rfl, ?_⟩) hHeld ?_ ?_
         rotate_left
         ·rintro w' ⟨s0, s1, s2, s3, s4, s5⟩
          go_simp
          with_reducible rfl
         rotate_left
         ·simp only [Act.put, qsA, qsB, qsC, qqs, qqu]
          rfl
         refine take_ (i := 16) (N := some 36) (v := ?_) (a' := ?_) #[true, true, true, true, true, true, true, true, true, true, true, true, true, true, true, true, true, true, true, false, false, false, false, false] rfl rfl (take_ofW HT_.out HW_.out (by kernel_rfl)) (fun _ _ _ h => h) (Or.inl ⟨by rfl, ?_⟩) hHeld ?_ ?_
         rotate_left
         ·rintro w' ⟨s0, s1, s2, s3, s4, s5⟩
          go_simp
          with_reducible rfl
         rotate_left
         ·simp only [Act.put, qsA, qsB, qsC, qqs, qqu]
          rfl
         refine take_ (i := 19) (N := some 39) (v := ?_) (a' := ?_) #[true, true, true, true, true, true, true, true, true, true, true, true, true, true, true, true, true, true, true, true, false, false, false, false] rfl rfl (take_ofW HT_.out HW_.out (by kernel_rfl)) (fun _ _ _ h => h) (Or.inl ⟨by rfl, ?_⟩) hHeld ?_ ?_
         rotate_left
         ·rintro w' ⟨s0, s1, s2, s3, s4, s5⟩
          go_simp
          with_reducible rfl
         rotate_left
         ·simp only [Act.put, qsA, qsB, qsC, qqs, qqu]
          rfl
         refine qqy (i := 20) (N := some 40) (v := ?_) (a' := ?_) #[true, true, true, true, true, true, true, true, true, true, true, true, true, true, true, true, true, true, true, true, true, false, false, false] rfl rfl (qqp HT_.out (by kernel_rfl)) (fun _ _ _ h => h) (Or.inl ⟨by rfl, ?_⟩) ?_ ?_
         rotate_left
         ·intro w'
          go_simp
          with_reducible rfl
         rotate_left
         ·simp only [Act.put, qsA, qsB, qsC, qqs, qqu]
          rfl
         refine qqy (i := 21) (N := some 41) (v := ?_) (a' := ?_) #[true, true, true, true, true, true, true, true, true, true, true, true, true, true, true, true, true, true, true, true, true, true, false, false] rfl rfl (qqp HT_.out (by kernel_rfl)) (fun _ _ _ h => h) (Or.inl ⟨by rfl, ?_⟩) ?_ ?_
         rotate_left
         ·intro w'
          go_simp
          with_reducible rfl
         rotate_left
         ·simp only [Act.put, qsA, qsB, qsC, qqs, qqu]
          rfl
         refine one_ (i := 22) (N := some 7) #[true, true, true, true, true, true, true, true, true, true, true, true, true, true, true, true, true, true, true, true, true, true, true, false] rfl rfl (one_of HT_.out (by kernel_rfl)) (by decide) (fun K hK => ?_)
         refine box_step ?hg (N := 7) ?hd (cs := #[.int .i64 0, .int .i64 0, .int .i64 0, .int .i64 0, .int .i64 0, .int .i64 0]) (t := 27) ?hr ?_; (case hd => rfl); (case hg => rfl); (case hr => first | (go_simp; done) | (go_simp; rfl))
         intro Q0 hg w38 hbox hb
         have HS0_ := (hb.cell (World.block_lt_of_cell? _ _ (hHeld.1))).trans (hHeld.1)
         have HS1_ := (hb.cell (World.block_lt_of_cell? _ _ (hHeld.2.1))).trans (hHeld.2.1)
         have HS2_ := (hb.cell (World.block_lt_of_cell? _ _ (hHeld.2.2.1))).trans (hHeld.2.2.1)
         have HS3_ := (hb.cell (World.block_lt_of_cell? _ _ (hHeld.2.2.2.1))).trans (hHeld.2.2.2.1)
         have HS4_ := (hb.cell (World.block_lt_of_cell? _ _ (hHeld.2.2.2.2.1))).trans (hHeld.2.2.2.2.1)
         have HS5_ := (hb.cell (World.block_lt_of_cell? _ _ (hHeld.2.2.2.2.2))).trans (hHeld.2.2.2.2.2)
         have n0_ := Aside0.mk (Kd.R_below (by (with_reducible repeat (first | apply Kd.R_alloc | apply Kd.R_drewN | apply Kd.R_drew)); exact Q6.out) hb)
         have n1_ := Aside0.mk (Kd.R_below (by (with_reducible repeat (first | apply Kd.R_alloc | apply Kd.R_drewN | apply Kd.R_drew)); exact Q8.out) hb)
         have n2_ := bbl Q4 hb
         have n3_ := bst HB hb
         have n4_ := Aside0.mk (hbox)
         have n5_ := szl HB hg
         have n6_ := szl HB hg
         have n7_ := nel Q4 hg
         have n8_ := ner Q4 hg
         clear Q6
         clear Q8
         clear Q4
         clear HB
         have Q6 := n0_
         have Q8 := n1_
         have Q4 := n2_
         have HB := n3_
         have Q5 := n4_
         have GW332 := n5_
         have GE332 := n6_
         have Q2 := n7_
         have Q7 := n8_
         clear n0_ n1_ n2_ n3_ n4_ n5_ n6_ n7_ n8_
         clear hb hbox hg
         refine hK.out _ _ ⟨HS0_, HS1_, HS2_, HS3_, HS4_, HS5_⟩ (fun hHeld => ?_)
         clear hK K
         refine norm_ (a' := ?_) ?_ ?_
         rotate_left
         ·show Act.put _ (some 7) _ = _
          simp only [Act.put, qsA, qsB, qsC, qqs, qqu]
          rfl
         refine one_ (i := 23) (N := none) #[true, true, true, true, true, true, true, true, true, true, true, true, true, true, true, true, true, true, true, true, true, true, true, true] rfl rfl (one_of HT_.out (by kernel_rfl)) (by decide) (fun K hK => ?_)
         have hs39 : w38.cell? ⟨Q0, 0, none⟩ = some (.int .i64 0) := (qqq Q5.out 0).trans rfl
         have hfs39 := qqm Q5.out 0
         have hns39_0 := Q2.out
         have hms39_0 := Q7.out
         have hs40 : w38.cell? ⟨Q0, 1, none⟩ = some (.int .i64 0) := (qqq Q5.out 1).trans rfl
         have hfs40 := qqm Q5.out 1
         have hns40_0 := Q2.out
         have hms40_0 := Q7.out
         have hs41 : w38.cell? ⟨Q0, 2, none⟩ = some (.int .i64 0) := (qqq Q5.out 2).trans rfl
         have hfs41 := qqm Q5.out 2
         have hns41_0 := Q2.out
         have hms41_0 := Q7.out
         have hs42 : w38.cell? ⟨Q0, 3, none⟩ = some (.int .i64 0) := (qqq Q5.out 3).trans rfl
         have hfs42 := qqm Q5.out 3
         have hns42_0 := Q2.out
         have hms42_0 := Q7.out
         have hs43 : w38.cell? ⟨Q0, 4, none⟩ = some (.int .i64 0) := (qqq Q5.out 4).trans rfl
         have hfs43 := qqm Q5.out 4
         have hns43_0 := Q2.out
         have hms43_0 := Q7.out
         have hs44 : w38.cell? ⟨Q0, 5, none⟩ = some (.int .i64 0) := (qqq Q5.out 5).trans rfl
         have hfs44 := qqm Q5.out 5
         have hns44_0 := Q2.out
         have hms44_0 := Q7.out
         refine skip_ (w1 := ?_) (by rfl) rfl ?_ ?_
         rotate_left
         ·go_simp
          rfl
         have q0_ := Kd.own_blk (Kd.R_ne Q8.out Q5.out (by decide))
         refine hK.out _ _ ⟨((qqh (p := ⟨Q0, _, none⟩) (by first | exact q0_ | exact nbE q0_) _).trans (((qqh (p := ⟨Q0, _, none⟩) (by first | exact q0_ | exact nbE q0_) _).trans (((qqh (p := ⟨Q0, _, none⟩) (by first | exact q0_ | exact nbE q0_) _).trans (((qqh (p := ⟨Q0, _, none⟩) (by first | exact q0_ | exact nbE q0_) _).trans (((qqh (p := ⟨Q0, _, none⟩) (by first | exact q0_ | exact nbE q0_) _).trans (((qqh (p := ⟨Q0, _, none⟩) (by first | exact q0_ | exact nbE q0_) _).trans (hHeld.1)))))))))))), ((qqh (p := ⟨Q0, _, none⟩) (by first | exact q0_ | exact nbE q0_) _).trans (((qqh (p := ⟨Q0, _, none⟩) (by first | exact q0_ | exact nbE q0_) _).trans (((qqh (p := ⟨Q0, _, none⟩) (by first | exact q0_ | exact nbE q0_) _).trans (((qqh (p := ⟨Q0, _, none⟩) (by first | exact q0_ | exact nbE q0_) _).trans (((qqh (p := ⟨Q0, _, none⟩) (by first | exact q0_ | exact nbE q0_) _).trans (((qqh (p := ⟨Q0, _, none⟩) (by first | exact q0_ | exact nbE q0_) _).trans (hHeld.2.1)))))))))))), ((qqh (p := ⟨Q0, _, none⟩) (by first | exact q0_ | exact nbE q0_) _).trans (((qqh (p := ⟨Q0, _, none⟩) (by first | exact q0_ | exact nbE q0_) _).trans (((qqh (p := ⟨Q0, _, none⟩) (by first | exact q0_ | exact nbE q0_) _).trans (((qqh (p := ⟨Q0, _, none⟩) (by first | exact q0_ | exact nbE q0_) _).trans (((qqh (p := ⟨Q0, _, none⟩) (by first | exact q0_ | exact nbE q0_) _).trans (((qqh (p := ⟨Q0, _, none⟩) (by first | exact q0_ | exact nbE q0_) _).trans (hHeld.2.2.1)))))))))))), ((qqh (p := ⟨Q0, _, none⟩) (by first | exact q0_ | exact nbE q0_) _).trans (((qqh (p := ⟨Q0, _, none⟩) (by first | exact q0_ | exact nbE q0_) _).trans (((qqh (p := ⟨Q0, _, none⟩) (by first | exact q0_ | exact nbE q0_) _).trans (((qqh (p := ⟨Q0, _, none⟩) (by first | exact q0_ | exact nbE q0_) _).trans (((qqh (p := ⟨Q0, _, none⟩) (by first | exact q0_ | exact nbE q0_) _).trans (((qqh (p := ⟨Q0, _, none⟩) (by first | exact q0_ | exact nbE q0_) _).trans (hHeld.2.2.2.1)))))))))))), ((qqh (p := ⟨Q0, _, none⟩) (by first | exact q0_ | exact nbE q0_) _).trans (((qqh (p := ⟨Q0, _, none⟩) (by first | exact q0_ | exact nbE q0_) _).trans (((qqh (p := ⟨Q0, _, none⟩) (by first | exact q0_ | exact nbE q0_) _).trans (((qqh (p := ⟨Q0, _, none⟩) (by first | exact q0_ | exact nbE q0_) _).trans (((qqh (p := ⟨Q0, _, none⟩) (by first | exact q0_ | exact nbE q0_) _).trans (((qqh (p := ⟨Q0, _, none⟩) (by first | exact q0_ | exact nbE q0_) _).trans (hHeld.2.2.2.2.1)))))))))))), ((qqh (p := ⟨Q0, _, none⟩) (by first | exact q0_ | exact nbE q0_) _).trans (((qqh (p := ⟨Q0, _, none⟩) (by first | exact q0_ | exact nbE q0_) _).trans (((qqh (p := ⟨Q0, _, none⟩) (by first | exact q0_ | exact nbE q0_) _).trans (((qqh (p := ⟨Q0, _, none⟩) (by first | exact q0_ | exact nbE q0_) _).trans (((qqh (p := ⟨Q0, _, none⟩) (by first | exact q0_ | exact nbE q0_) _).trans (((qqh (p := ⟨Q0, _, none⟩) (by first | exact q0_ | exact nbE q0_) _).trans (hHeld.2.2.2.2.2))))))))))))⟩ (fun hHeld => ?_)
         clear hK K
         refine done_ (done_of HT_.out (by kernel_rfl)) ?_
         have hnb45 := Q7.out
         have hnc45 := Q2.out
         obtain ⟨_, _, _, _, _, _⟩ := bcells6 Q5.out
         obtain ⟨_, _, _, _, _, _⟩ := bfrozen6 Q5.out
         try go_wp2_with (first | ((with_reducible refine qqo (f := 44) rfl ?_); refine goesL_ (some 43) rfl rfl Tryd.func44 (by kernel_rfl) rfl #[.agg #[.int .i64 (rd Q1 0), .int .i64 (rd Q1 1), .int .i64 (wrap64 ((rd Q1 2) - 1)), .int .i64 (rd Q1 3), .int .i64 (rd Q1 4), .int .i64 (rd Q1 5)]] rfl (by (try simp only [List.map_toArray, List.map_cons, List.map_nil]); first | done | rfl | (simp only [List.length_drop, List.length_take]; rfl)) ?_; (with_reducible refine (wayfinderref04_May.calls k (rd Q1 0) (rd Q1 1) (wrap64 ((rd Q1 2) - 1)) (rd Q1 3) (rd Q1 4) (rd Q1 5) false _ A10.out).mono ?_); rintro e w47 ⟨rfl, hb⟩; refine ⟨_, rfl, ?_⟩; replace Q6 := Aside0.mk (Kd.R_below (by (with_reducible repeat (first | apply Kd.R_alloc | apply Kd.R_drewN | apply Kd.R_drew)); exact (Kd.R_mono (Kd.R_far (p := ⟨Q0, 5, none⟩) (Kd.R_far (p := ⟨Q0, 4, none⟩) (Kd.R_far (p := ⟨Q0, 3, none⟩) (Kd.R_far (p := ⟨Q0, 2, none⟩) (Kd.R_far (p := ⟨Q0, 1, none⟩) (Kd.R_far (p := ⟨Q0, 0, none⟩) (Kd.R_types Q6.out Q5.out (by decide)) (fun _ hk => hk.2) (.int .i64 (rd Q1 0))) (fun _ hk => hk.2) (.int .i64 (rd Q1 1))) (fun _ hk => hk.2) (.int .i64 (wrap64 ((rd Q1 2) - 1)))) (fun _ hk => hk.2) (.int .i64 (rd Q1 3))) (fun _ hk => hk.2) (.int .i64 (rd Q1 4))) (fun _ hk => hk.2) (.int .i64 (rd Q1 5))) (fun _ h_ => h_.1))) hb); replace Q8 := Aside0.mk (Kd.R_below (by (with_reducible repeat (first | apply Kd.R_alloc | apply Kd.R_drewN | apply Kd.R_drew)); exact (Kd.R_mono (Kd.R_far (p := ⟨Q0, 5, none⟩) (Kd.R_far (p := ⟨Q0, 4, none⟩) (Kd.R_far (p := ⟨Q0, 3, none⟩) (Kd.R_far (p := ⟨Q0, 2, none⟩) (Kd.R_far (p := ⟨Q0, 1, none⟩) (Kd.R_far (p := ⟨Q0, 0, none⟩) (Kd.R_types Q8.out Q5.out (by decide)) (fun _ hk => hk.2) (.int .i64 (rd Q1 0))) (fun _ hk => hk.2) (.int .i64 (rd Q1 1))) (fun _ hk => hk.2) (.int .i64 (wrap64 ((rd Q1 2) - 1)))) (fun _ hk => hk.2) (.int .i64 (rd Q1 3))) (fun _ hk => hk.2) (.int .i64 (rd Q1 4))) (fun _ hk => hk.2) (.int .i64 (rd Q1 5))) (fun _ h_ => h_.1))) hb); replace Q4 := Aside0.mk (blk_below (g := Qg) (o := .cells #[.int .i64 0, .int .i64 0, .int .i64 0, .int .i64 0, .int .i64 0, .int .i64 0] 27 (0, 0)) (by (with_reducible repeat (first | refine qqd ?_ _ | refine qqf ?_ | refine qqe ?_ _)); refine qql ?_ Q2.out _; (with_reducible repeat (first | refine qqd ?_ _ | refine qqf ?_ | refine qqe ?_ _)); refine qql ?_ Q2.out _; (with_reducible repeat (first | refine qqd ?_ _ | refine qqf ?_ | refine qqe ?_ _)); refine qql ?_ Q2.out _; (with_reducible repeat (first | refine qqd ?_ _ | refine qqf ?_ | refine qqe ?_ _)); refine qql ?_ Q2.out _; (with_reducible repeat (first | refine qqd ?_ _ | refine qqf ?_ | refine qqe ?_ _)); refine qql ?_ Q2.out _; (with_reducible repeat (first | refine qqd ?_ _ | refine qqf ?_ | refine qqe ?_ _)); refine qql ?_ Q2.out _; (with_reducible repeat (first | refine qqd ?_ _ | refine qqf ?_ | refine qqe ?_ _)); exact Q4.out) hb); replace Q5 := Aside0.mk (blk_below (g := Q0) (o := .cells #[.int .i64 (rd Q1 0), .int .i64 (rd Q1 1), .int .i64 (wrap64 ((rd Q1 2) - 1)), .int .i64 (rd Q1 3), .int .i64 (rd Q1 4), .int .i64 (rd Q1 5)] 27 (0, 0)) (by exact bput6 Q5.out) hb); replace HB := bst HB hb; (try clear hb); (try clear hk); obtain ⟨_, _, _, _, _, _⟩ := bcells6 Q4.out; obtain ⟨_, _, _, _, _, _⟩ := bfrozen6 Q4.out))
         refine bodyPost_ret (results_ct rfl _ _ Qg 27 #[.int .i64 0, .int .i64 0, .int .i64 0, .int .i64 0, .int .i64 0, .int .i64 0] (0, 0) _ rfl (by exact bput6 Q4.out) Tryd.underlying27 rfl (by kernel_rfl)) rfl ?_
         exact ⟨by first | rfl | (simp [qqk, qqj] <;> rfl) | (simp [*, qqk, qqj] <;> rfl), by repeat (first | (with_reducible first | exact HB.out | apply qqc | apply qqa | apply qqb | refine qqg ?_ GE317.out | refine qqg ?_ GE332.out) | exact HB.out)⟩
       ·rw [if_neg c9] at H
        exact absurd H (by simp)
      ·rw [if_neg c8] at H
       exact absurd H (by simp)
     ·rw [if_neg c7] at H
      exact absurd H (by simp)
    ·rw [if_neg c6] at H
     exact absurd H (by simp)
   ·rw [if_neg c5] at H
    exact absurd H (by simp)
  ·rw [if_neg c4] at H
   exact absurd H (by simp)
 ·rw [if_neg c3] at H
  have c3b0 : (t323 == 0) = false := beq_eq_false_iff_ne.mpr c3
  have c3b1 : (t323 != 0) = true := bne_iff_ne.mpr c3
  simp only [Option.some.injEq, Prod.mk.injEq] at H
  obtain ⟨rfl, rfl, rfl, rfl, rfl, rfl, rfl⟩ := H
  go_enter Tryd.func41, Tryd.ntmps41
  go_wp2_with (first | ((with_reducible refine qqr (N := 2) rfl ?_); refine qqw ?hg (N := 2) ?hd (cs := #[.int .i64 0, .int .i64 0, .int .i64 0, .int .i64 0, .int .i64 0, .int .i64 0]) (t := 27) ?hr ?_; (case hd => rfl); (case hg => rfl); (case hr => first | (go_simp; done) | (go_simp; rfl)); intro Qg hg w49 hbox hb; have n0_ := bst HB hb; have n1_ := Aside0.mk (hbox); have n2_ := szl HB hg; have n3_ := szl HB hg; clear HB; have HB := n0_; have Q4 := n1_; have GW317 := n2_; have GE317 := n3_; clear n0_ n1_ n2_ n3_; clear hb hbox hg) | ((with_reducible refine qqr (N := 11) rfl ?_); refine Kd.R_lit (Kd.int .i64) _ 3 ?hg (N := 11) ?hd (xs := ([4, 1, 1, 1, 1, 1] : List Int)) (inner := [.int .i64 4, .int .i64 1, .int .i64 1, .int .i64 1, .int .i64 1, .int .i64 1]) (ok := fun _ => True) (okp := fun _ => True) ?hr ?hp (fun _ hk => hk) trivial (Below.refl _ _) (Nat.le_refl _) (by simp) ?_; (case hd => rfl); (case hg => rfl); (case hr => first | (go_simp; done) | (go_simp; rfl)); (case hp => exact (Reps.one (show Kd.M (Kd.int .i64) _ _ _ 4 [.int .i64 4] from rfl) (Reps.one (show Kd.M (Kd.int .i64) _ _ _ 1 [.int .i64 1] from rfl) (Reps.one (show Kd.M (Kd.int .i64) _ _ _ 1 [.int .i64 1] from rfl) (Reps.one (show Kd.M (Kd.int .i64) _ _ _ 1 [.int .i64 1] from rfl) (Reps.one (show Kd.M (Kd.int .i64) _ _ _ 1 [.int .i64 1] from rfl) (Reps.one (show Kd.M (Kd.int .i64) _ _ _ 1 [.int .i64 1] from rfl) (Reps.none _ _)))))))); intro v319 w50 ho51 hb hg_ hnew_; clear hg_ hnew_; (first | rw [← Ny318.out] at ho51 | (simp only [Int.reduceToNat] at ho51; rw [← Ny318.out] at ho51)); have Q6 := Aside0.mk (Kd.R_lower ho51 (qqt (by repeat (first | (with_reducible first | exact HB.out | apply qqc | apply qqa | apply qqb | refine qqg ?_ GE317.out) | exact HB.out)))); replace Q4 := bbl Q4 hb; replace HB := bst HB hb; clear hb ho51; obtain ⟨Ao52, co52, eo52⟩ := Kd.R_slice Q6.out; subst eo52) | ((with_reducible refine qqo (f := 40) rfl ?_); refine goesL_ (some 12) rfl rfl Tryd.func40 (by kernel_rfl) rfl #[.slice A0 l0.length c0, .slice Ao52 y318.length co52] rfl (by (try simp only [List.map_toArray, List.map_cons, List.map_nil]); first | done | rfl | (simp only [List.length_drop, List.length_take]; rfl)) ?_; (with_reducible refine (wayfinderref02_GetAll.calls k _ _ l0 _ _ y318 Q1 t322 t323 _ ?side1 ?side2 ?side3 ?side4 A2.out).mono ?_); (case side1 => repeat (first | exact (Kd.C_below HR0.out HB.out) | (with_reducible refine Kd.C_alloc ?_ _) | (with_reducible refine Kd.C_drewN ?_ _) | (with_reducible refine Kd.C_drew ?_))); (case side2 => exact HC0.out); (case side3 => repeat (first | exact (Kd.R_reads' Q6.out).2.2 | (with_reducible refine Kd.C_alloc ?_ _) | (with_reducible refine Kd.C_drewN ?_ _) | (with_reducible refine Kd.C_drew ?_))); (case side4 => exact (Kd.R_reads' Q6.out).2.1); rintro e w53 ⟨v324, rfl, ho0, hb⟩; refine ⟨_, rfl, ?_⟩; have n0_ := Aside0.mk (Kd.R_elder' (by (with_reducible repeat (first | apply Kd.R_alloc | apply Kd.R_drewN | apply Kd.R_drew)); exact Q6.out) (Kd.R_base ho0) hb); have n1_ := Aside0.mk (Kd.R_lower (Kd.R_new' ho0 (Kd.R_lt (by (with_reducible repeat (first | apply Kd.R_alloc | apply Kd.R_drewN | apply Kd.R_drew)); exact Q6.out))) (qqt (by repeat (first | (with_reducible first | exact HB.out | apply qqc | apply qqa | apply qqb | refine qqg ?_ GE317.out) | exact HB.out)))); have n2_ := bbl Q4 hb; have n3_ := bst HB hb; clear Q6; clear Q4; clear HB; have Q6 := n0_; have Q8 := n1_; have Q4 := n2_; have HB := n3_; clear n0_ n1_ n2_ n3_; (try clear hb); (try clear hk); (try clear ho0); obtain ⟨_, _, _, _, _, _⟩ := bcells6 Q4.out; obtain ⟨_, _, _, _, _, _⟩ := bfrozen6 Q4.out))
  refine bodyPost_ret (results_ct rfl _ _ Qg 27 #[.int .i64 0, .int .i64 0, .int .i64 0, .int .i64 0, .int .i64 0, .int .i64 0] (0, 0) _ rfl (by exact bput6 Q4.out) Tryd.underlying27 rfl (by kernel_rfl)) rfl ?_
  exact ⟨by first | rfl | (simp [qqk, qqj] <;> rfl) | (simp [*, qqk, qqj] <;> rfl), by repeat (first | (with_reducible first | exact HB.out | apply qqc | apply qqa | apply qqb | refine qqg ?_ GE317.out) | exact HB.out)⟩
end Go.Proofs.YtpaoofkahhhjaaaDoor.All
