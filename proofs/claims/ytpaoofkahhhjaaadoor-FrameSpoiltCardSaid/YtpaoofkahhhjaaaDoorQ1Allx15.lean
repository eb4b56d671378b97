/- Contracts of Go functions that this seat comes to, each with a plain function that tells its answers; conditions: those that each contract names. Written by a program of this session (wip/print) over the print words. -/
import Derived.Test.YtpaoofkahhhjaaaDoorQ1Allx0
import Derived.Test.YtpaoofkahhhjaaaDoorQ1Allx6
import Derived.Test.YtpaoofkahhhjaaaDoorQ1Allx13
import Derived.Test.YtpaoofkahhhjaaaDoorQ1Allx14
namespace Go.Proofs.YtpaoofkahhhjaaaDoor.All
open Go.RowKit Go.Proofs.YtpaoofkahhhjaaaDoorW.PrintWords Go.Proofs.YtpaoofkahhhjaaaDoorW.PrintLast Go.Proofs.YtpaoofkahhhjaaaDoorW.PrintMore
attribute [local go_sem] max2_int min2_int max_two min_two max_three min_three max_four min_four
set_option linter.unusedVariables false
set_option linter.unusedSimpArgs false
def msg_Get.j0 : Nat → List Int → Int → Int → Int → Int → Int → Int → Int → Int → Int → Int → Int → Int → Option (Int × Int × Int × Int × Int × Int × Int × Int × Int × Int × Int)
 | 0, _, _, _, _, _, _, _, _, _, _, _, _, _ => none
 | k + 1, x0, x5, x8, x298000, x298001, x298002, x298003, x298004, x298005, x298006, x298007, x298008, x298009 => if (x0.length : Int) < x8 then (some (0, 0, 0, 0, 0, 0, 0, 0, 0, 0, 3)) else (if (x0.length : Int) > x8 then (some (0, 0, 0, 0, 0, 0, 0, 0, 0, 0, 2)) else (if x8 = 18 then (if 0 ≤ x5 then (if x5 ≤ (x0.length : Int) then ((rule_Get.f k (x0.drop (x5 : Int).toNat)).bind fun bt299 => (if bt299.2.2.2.2.2.2 = 0 then ((msg_May.f x298000 x298001 x298002 x298003 bt299.1 bt299.2.1 bt299.2.2.1 bt299.2.2.2.1 bt299.2.2.2.2.1 bt299.2.2.2.2.2.1).bind fun t306 => (if t306 = true then (some (x298000, x298001, x298002, x298003, bt299.1, bt299.2.1, bt299.2.2.1, bt299.2.2.2.1, bt299.2.2.2.2.1, bt299.2.2.2.2.2.1, 0)) else (some (0, 0, 0, 0, 0, 0, 0, 0, 0, 0, 2)))) else (some (0, 0, 0, 0, 0, 0, 0, 0, 0, 0, 2)))) else (none)) else (none)) else ((msg_May.f x298000 x298001 x298002 x298003 x298004 x298005 x298006 x298007 x298008 x298009).bind fun t307 => (if t307 = true then (some (x298000, x298001, x298002, x298003, x298004, x298005, x298006, x298007, x298008, x298009, 0)) else (some (0, 0, 0, 0, 0, 0, 0, 0, 0, 0, 2))))))
def msg_Get.f (k : Nat) (l0 : List Int) : Option (Int × Int × Int × Int × Int × Int × Int × Int × Int × Int × Int) := (octets_GetAll.f k l0 (([1, 3, 3, 2] : List Int))).bind fun bt288 => (if bt288.2.2 = 0 then (if 0 < (bt288.1.length : Int) then (if 1 < (bt288.1.length : Int) then (if 2 < (bt288.1.length : Int) then (if 3 < (bt288.1.length : Int) then (if (rd bt288.1 0) = 2 then (msg_Get.j0 k l0 bt288.2.1 18 (rd bt288.1 0) (rd bt288.1 1) (rd bt288.1 2) (rd bt288.1 3) 0 0 0 0 0 0) else (msg_Get.j0 k l0 bt288.2.1 9 (rd bt288.1 0) (rd bt288.1 1) (rd bt288.1 2) (rd bt288.1 3) 0 0 0 0 0 0)) else (none)) else (none)) else (none)) else (none)) else (some (0, 0, 0, 0, 0, 0, 0, 0, 0, 0, bt288.2.2)))
theorem msg_Get.mono_l : ∀ k, (∀ y0 y1 y2 y3 y4 y5 y6 y7 y8 y9 y10 y11 y12, LeO (msg_Get.j0 k y0 y1 y2 y3 y4 y5 y6 y7 y8 y9 y10 y11 y12) (msg_Get.j0 (k + 1) y0 y1 y2 y3 y4 y5 y6 y7 y8 y9 y10 y11 y12))
 | 0 => fun _ _ _ _ _ _ _ _ _ _ _ _ _ r h => by simp [msg_Get.j0] at h
 | k + 1 => by
  have ih0 := msg_Get.mono_l k
  ·intro y0 y1 y2 y3 y4 y5 y6 y7 y8 y9 y10 y11 y12
   unfold msg_Get.j0
   repeat' first
   | (with_reducible exact ih0 _ _ _ _ _ _ _ _ _ _ _ _ _)
   | (with_reducible exact octets_GetAll.mono _ _ _)
   | (with_reducible exact rule_Get.mono _ _)
   | (with_reducible exact LeO.refl _)
   | (with_reducible exact LeO.none _)
   | (with_reducible refine LeO.ite ?_ ?_)
   | (with_reducible refine LeO.bind ?_ (fun _ => ?_))
   | exact ih0 _ _ _ _ _ _ _ _ _ _ _ _ _
   | exact octets_GetAll.mono _ _ _
   | exact rule_Get.mono _ _
   | exact LeO.none _
   | refine LeO.ite ?_ ?_
   | refine LeO.bind ?_ (fun _ => ?_)
theorem msg_Get.mono : ∀ a0 k, LeO (msg_Get.f k a0) (msg_Get.f (k + 1) a0) := by
 intro a0 k
 have ih0 := msg_Get.mono_l k
 unfold msg_Get.f
 repeat' first
   | (with_reducible exact ih0 _ _ _ _ _ _ _ _ _ _ _ _ _)
   | (with_reducible exact octets_GetAll.mono _ _ _)
   | (with_reducible exact rule_Get.mono _ _)
   | (with_reducible exact LeO.refl _)
   | (with_reducible exact LeO.none _)
   | (with_reducible refine LeO.ite ?_ ?_)
   | (with_reducible refine LeO.bind ?_ (fun _ => ?_))
   | exact ih0 _ _ _ _ _ _ _ _ _ _ _ _ _
   | exact octets_GetAll.mono _ _ _
   | exact rule_Get.mono _ _
   | exact LeO.none _
   | refine LeO.ite ?_ ?_
   | refine LeO.bind ?_ (fun _ => ?_)
def msg_Get.T4 : Bool × List (List Nat × List Nat) := (true, [([], []), ([0], [0]), ([1], [1]), ([], []), ([3], [3]), ([4], [4]), ([], []), ([6], [6]), ([7], [7]), ([], []), ([9], [9]), ([10], [10]), ([2, 5, 8, 11], [2, 5, 8, 11]), ([], []), ([13, 12, 0, 1, 2, 3, 4, 5, 6, 7, 8, 9, 10, 11, 12, 13], [12, 13])])
def msg_Get.B4 : List Nat := [0, 1, 3, 0, 8, 24, 0, 64, 192, 0, 512, 1536, 4095, 0, 16383]
theorem msg_Get.tab4 : rtab .any (opsOf Tryd.f28 4) = msg_Get.T4 := by kernel_rfl
theorem msg_Get.bits4 : waitsOk msg_Get.T4.2 msg_Get.B4 = true := by kernel_rfl
set_option maxHeartbeats 8000000 in
set_option maxRecDepth 100000 in
theorem msg_Get.calls (k : Nat) (A0 : Option Addr) (c0 : Nat) (l0 : List Int) (r1 : Int) (r2 : Int) (r3 : Int) (r4 : Int) (r5 : Int) (r6 : Int) (r7 : Int) (r8 : Int) (r9 : Int) (r10 : Int) (r11 : Int) (w : World) (hr0 : Kd.C (Kd.int .u8) w A0 l0.length l0) (hc0 : l0.length ≤ c0) (hG : Glob w) (h : msg_Get.f k l0 = some (r1, r2, r3, r4, r5, r6, r7, r8, r9, r10, r11)) :
  Calls Tryd.prog 28 #[.slice A0 l0.length c0] w fun e w' => e = .returned (.tuple #[.agg #[.int .i64 r1, .int .i64 r2, .int .i64 r3, .int .i64 r4, .int .i64 r5, .int .i64 r6, .int .i64 r7, .int .i64 r8, .int .i64 r9, .int .i64 r10], .int .i64 r11]) ∧ Below w.heap.size w w' := by
 have hu29 := Tryd.underlying29
 have hu27 := Tryd.underlying27
 have HR0 := Aside0.mk hr0
 have HC0 := Aside0.mk hc0
 clear hr0 hc0
 have HB := Aside0.mk (Below.refl w.heap.size w)
 have H : ((octets_GetAll.f k l0 (([1, 3, 3, 2] : List Int))).bind fun bt288 => (if bt288.2.2 = 0 then (if 0 < (bt288.1.length : Int) then (if 1 < (bt288.1.length : Int) then (if 2 < (bt288.1.length : Int) then (if 3 < (bt288.1.length : Int) then (if (rd bt288.1 0) = 2 then (msg_Get.j0 k l0 bt288.2.1 18 (rd bt288.1 0) (rd bt288.1 1) (rd bt288.1 2) (rd bt288.1 3) 0 0 0 0 0 0) else (msg_Get.j0 k l0 bt288.2.1 9 (rd bt288.1 0) (rd bt288.1 1) (rd bt288.1 2) (rd bt288.1 3) 0 0 0 0 0 0)) else (none)) else (none)) else (none)) else (none)) else (some (0, 0, 0, 0, 0, 0, 0, 0, 0, 0, bt288.2.2)))) = some (r1, r2, r3, r4, r5, r6, r7, r8, r9, r10, r11) := h
 clear h
 obtain ⟨y285, hy285⟩ : ∃ y_ : List Int, y_ = (([1, 3, 3, 2] : List Int)) := ⟨_, rfl⟩
 replace H : ((octets_GetAll.f k l0 y285).bind fun bt288 => (if bt288.2.2 = 0 then (if 0 < (bt288.1.length : Int) then (if 1 < (bt288.1.length : Int) then (if 2 < (bt288.1.length : Int) then (if 3 < (bt288.1.length : Int) then (if (rd bt288.1 0) = 2 then (msg_Get.j0 k l0 bt288.2.1 18 (rd bt288.1 0) (rd bt288.1 1) (rd bt288.1 2) (rd bt288.1 3) 0 0 0 0 0 0) else (msg_Get.j0 k l0 bt288.2.1 9 (rd bt288.1 0) (rd bt288.1 1) (rd bt288.1 2) (rd bt288.1 3) 0 0 0 0 0 0)) else (none)) else (none)) else (none)) else (none)) else (some (0, 0, 0, 0, 0, 0, 0, 0, 0, 0, bt288.2.2)))) = some (r1, r2, r3, r4, r5, r6, r7, r8, r9, r10, r11) := by first | (rw [hy285]; with_reducible exact H) | (have H2_ := (Option.bind_some _ _).symm.trans H; rw [hy285]; with_reducible exact H2_) | (have H2_ := (Option.bind_some _ _).symm.trans H; with_reducible exact H2_) | with_reducible exact H | (rw [hy285]; exact H) | exact H
 have Ny285 := Aside0.mk hy285
 clear hy285
 replace H := Option.bind_eq_some_iff.mp H
 obtain ⟨⟨t288, t291, t292⟩, A20, H⟩ := H
 replace H : (if t292 = 0 then (if 0 < (t288.length : Int) then (if 1 < (t288.length : Int) then (if 2 < (t288.length : Int) then (if 3 < (t288.length : Int) then (if (rd t288 0) = 2 then (msg_Get.j0 k l0 t291 18 (rd t288 0) (rd t288 1) (rd t288 2) (rd t288 3) 0 0 0 0 0 0) else (msg_Get.j0 k l0 t291 9 (rd t288 0) (rd t288 1) (rd t288 2) (rd t288 3) 0 0 0 0 0 0)) else (none)) else (none)) else (none)) else (none)) else (some (0, 0, 0, 0, 0, 0, 0, 0, 0, 0, t292))) = some (r1, r2, r3, r4, r5, r6, r7, r8, r9, r10, r11) := H
 have A2 := Aside0.mk A20
 clear A20
 by_cases c3 : t292 = 0
 ·rw [if_pos c3] at H
  have c3b0 : (t292 == 0) = true := beq_iff_eq.mpr c3
  have c3b1 : (t292 != 0) = false := bne_eq_false_iff_eq.mpr c3
  clear c3
  by_cases c4 : 0 < (t288.length : Int)
  ·rw [if_pos c4] at H
   have c4b0 : decide (0 < (t288.length : Int)) = true := decide_eq_true c4
   have c4b1 : decide (0 < t288.length) = true := decide_eq_true (by omega)
   clear c4
   by_cases c5 : 1 < (t288.length : Int)
   ·rw [if_pos c5] at H
    have c5b0 : decide (1 < (t288.length : Int)) = true := decide_eq_true c5
    have c5b1 : decide (1 < t288.length) = true := decide_eq_true (by omega)
    clear c5
    by_cases c6 : 2 < (t288.length : Int)
    ·rw [if_pos c6] at H
     have c6b0 : decide (2 < (t288.length : Int)) = true := decide_eq_true c6
     have c6b1 : decide (2 < t288.length) = true := decide_eq_true (by omega)
     clear c6
     by_cases c7 : 3 < (t288.length : Int)
     ·rw [if_pos c7] at H
      have c7b0 : decide (3 < (t288.length : Int)) = true := decide_eq_true c7
      have c7b1 : decide (3 < t288.length) = true := decide_eq_true (by omega)
      clear c7
      have HC8 := Aside0.mk H
      clear H
      go_enter Tryd.func28, Tryd.ntmps28
      try go_wp2_with (first | ((with_reducible refine qqv (N := 2) rfl ?_); refine qqx ?hg (N := 2) ?hd (cs := #[.int .i64 0, .int .i64 0, .int .i64 0, .int .i64 0, .int .i64 0, .int .i64 0, .int .i64 0, .int .i64 0, .int .i64 0, .int .i64 0]) (t := 29) ?hr ?_; (case hd => rfl); (case hg => rfl); (case hr => first | (go_simp; done) | (go_simp; rfl)); intro gb284 hg w9 hbox hb; have n0_ := Aside0.mk (qqi (by repeat (first | (with_reducible first | exact HB.out | apply qqc | apply qqa | apply qqb) | exact HB.out)) hb); have n1_ := Aside0.mk (hbox); have n2_ := Aside0.mk ((by rw [hg]; exact (qqj (by repeat (first | (with_reducible first | exact HB.out | apply qqc | apply qqa | apply qqb) | exact HB.out))) : w.heap.size ≤ gb284)); have n3_ := Aside0.mk ((by rw [hg]; exact (qqj (by repeat (first | (with_reducible first | exact HB.out | apply qqc | apply qqa | apply qqb) | exact HB.out))) : w.heap.size ≤ gb284)); clear HB; have HB := n0_; have BK284 := n1_; have GW284 := n2_; have GE284 := n3_; clear n0_ n1_ n2_ n3_; clear hb hbox hg) | ((with_reducible refine qqv (N := 11) rfl ?_); refine Kd.R_lit (Kd.int .i64) _ 3 ?hg (N := 11) ?hd (xs := ([1, 3, 3, 2] : List Int)) (inner := [.int .i64 1, .int .i64 3, .int .i64 3, .int .i64 2]) (ok := fun _ => True) (okp := fun _ => True) ?hr ?hp (fun _ hk => hk) trivial (Below.refl _ _) (Nat.le_refl _) (by simp) ?_; (case hd => rfl); (case hg => rfl); (case hr => first | (go_simp; done) | (go_simp; rfl)); (case hp => exact (Reps.one (show Kd.M (Kd.int .i64) _ _ _ 1 [.int .i64 1] from rfl) (Reps.one (show Kd.M (Kd.int .i64) _ _ _ 3 [.int .i64 3] from rfl) (Reps.one (show Kd.M (Kd.int .i64) _ _ _ 3 [.int .i64 3] from rfl) (Reps.one (show Kd.M (Kd.int .i64) _ _ _ 2 [.int .i64 2] from rfl) (Reps.none _ _)))))); intro v286 w10 ho11 hb hg_ hnew_; clear hg_ hnew_; (first | rw [← Ny285.out] at ho11 | (simp only [Int.reduceToNat] at ho11; rw [← Ny285.out] at ho11)); have n0_ := Aside0.mk (Kd.R_lower ho11 (qqj (by repeat (first | (with_reducible first | exact HB.out | apply qqc | apply qqa | apply qqb | refine qqf ?_ GE284.out) | exact HB.out)))); have n1_ := Aside0.mk (qqk (g := gb284) (o := .cells #[.int .i64 0, .int .i64 0, .int .i64 0, .int .i64 0, .int .i64 0, .int .i64 0, .int .i64 0, .int .i64 0, .int .i64 0, .int .i64 0] 29 (0, 0)) (by (with_reducible repeat (first | refine qqd ?_ _ | refine qqg ?_ | refine qqe ?_ _)); exact BK284.out) hb); have n2_ := Aside0.mk (qqi (by repeat (first | (with_reducible first | exact HB.out | apply qqc | apply qqa | apply qqb | refine qqf ?_ GE284.out) | exact HB.out)) hb); clear BK284; clear HB; have HO287 := n0_; have BK284 := n1_; have HB := n2_; clear n0_ n1_ n2_; clear hb ho11; obtain ⟨Ao12, co12, eo12⟩ := Kd.R_slice HO287.out; subst eo12) | ((with_reducible refine qza (f := 38) rfl ?_); refine goesL_ (some 12) rfl rfl Tryd.func38 (by kernel_rfl) rfl #[.slice A0 l0.length c0, .slice Ao12 y285.length co12] rfl (by (try simp only [List.map_toArray, List.map_cons, List.map_nil]); first | done | rfl | (simp only [List.length_drop, List.length_take]; rfl)) ?_; (with_reducible refine (octets_GetAll.calls k (fun k_ => k_ < w.heap.size) _ _ l0 _ _ y285 t288 t291 t292 _ ?side1 ?side2 ?side3 A2.out).mono ?_); (case side1 => exact Kd.V_mk HC0.out (Kd.F_below (Kd.C_F (Kd.heap_int .u8) HR0.out) (by repeat (first | (with_reducible first | exact HB.out | apply qqc | apply qqa | apply qqb | refine qqf ?_ GE284.out) | exact HB.out)))); (case side2 => repeat (first | exact (Kd.R_reads' HO287.out).2.2 | (with_reducible refine Kd.C_alloc ?_ _) | (with_reducible refine Kd.C_drewN ?_ _) | (with_reducible refine Kd.C_drew ?_))); (case side3 => exact (Kd.R_reads' HO287.out).2.1); rintro e w13 ⟨v289, rfl, ho0, hb⟩; refine ⟨_, rfl, ?_⟩; have n0_ := Aside0.mk (Kd.R_elder' (by (with_reducible repeat (first | apply Kd.R_alloc | apply Kd.R_drewN | apply Kd.R_drew)); exact HO287.out) (Kd.R_base ho0) hb); have n1_ := Aside0.mk (Kd.R_lower (Kd.R_new' (Kd.R_mono (ok' := fun k_ => True) ho0 (fun _ hk_ => trivial)) (Kd.R_lt (by (with_reducible repeat (first | apply Kd.R_alloc | apply Kd.R_drewN | apply Kd.R_drew)); exact HO287.out))) (qqj (by repeat (first | (with_reducible first | exact HB.out | apply qqc | apply qqa | apply qqb | refine qqf ?_ GE284.out) | exact HB.out)))); have n2_ := Aside0.mk (qqk (g := gb284) (o := .cells #[.int .i64 0, .int .i64 0, .int .i64 0, .int .i64 0, .int .i64 0, .int .i64 0, .int .i64 0, .int .i64 0, .int .i64 0, .int .i64 0] 29 (0, 0)) (by (with_reducible repeat (first | refine qqd ?_ _ | refine qqg ?_ | refine qqe ?_ _)); exact BK284.out) hb); have n3_ := Aside0.mk (qqi (by repeat (first | (with_reducible first | exact HB.out | apply qqc | apply qqa | apply qqb | refine qqf ?_ GE284.out) | exact HB.out)) hb); clear HO287; clear BK284; clear HB; have HO287 := n0_; have HO290 := n1_; have BK284 := n2_; have HB := n3_; clear n0_ n1_ n2_ n3_; (try clear hb); (try clear hb2); (try clear hk); (try clear hi); (try clear ho0)))
      have n0_ := Aside0.mk (Kd.R_drew HO287.out)
      have n1_ := Aside0.mk (Kd.R_drew HO290.out)
      have n2_ := Aside0.mk (qqg BK284.out)
      have n3_ := Aside0.mk (qqb HB.out)
      clear HO287
      clear HO290
      clear BK284
      clear HB
      have HO287 := n0_
      have HO290 := n1_
      have BK284 := n2_
      have HB := n3_
      clear n0_ n1_ n2_ n3_
      obtain ⟨Ao15, co15, eo15⟩ := Kd.R_slice HO290.out
      (first | subst eo15 | (injection eo15 with f1_ f2_ f3_; have f4_ := f1_.symm; have f5_ := f3_.symm; clear f1_ f2_ f3_; subst f4_; subst f5_))
      have p293 : 0 ≤ (0 : Int) := (by omega)
      have q293 : 0 < (t288.length : Int) := of_decide_eq_true (by first | (with_reducible assumption) | assumption)
      obtain ⟨ad293, e293, hx293_0⟩ := Kd.at_int (Kd.R_reads' HO290.out).2.2 0 p293 q293
      cases e293
      have qi293 : (0 < t288.length) = True := eq_true (by omega)
      (try rw [show ((0 : Int)).toNat = 0 from rfl] at hx293_0)
      (try rw [Addr.add_zero'] at hx293_0)
      replace p293 := eq_true p293
      replace q293 := eq_true q293
      have p294 : 0 ≤ (1 : Int) := (by omega)
      have q294 : 1 < (t288.length : Int) := of_decide_eq_true (by first | (with_reducible assumption) | assumption)
      obtain ⟨ad294, e294, hx294_0⟩ := Kd.at_int (Kd.R_reads' HO290.out).2.2 1 p294 q294
      obtain rfl : ad293 = ad294 := (by injection e294)
      (try simp only [show (1 : Int).toNat = 1 from rfl, Nat.reduceMul, Nat.reduceEqDiff, Go.Addr.add, ↓reduceIte] at hx294_0)
      have qi294 : (1 < t288.length) = True := eq_true (by omega)
      (try rw [show ((1 : Int)).toNat = 1 from rfl] at hx294_0)
      replace p294 := eq_true p294
      replace q294 := eq_true q294
      have p295 : 0 ≤ (2 : Int) := (by omega)
      have q295 : 2 < (t288.length : Int) := of_decide_eq_true (by first | (with_reducible assumption) | assumption)
      obtain ⟨ad295, e295, hx295_0⟩ := Kd.at_int (Kd.R_reads' HO290.out).2.2 2 p295 q295
      obtain rfl : ad293 = ad295 := (by injection e295)
      (try simp only [show (2 : Int).toNat = 2 from rfl, Nat.reduceMul, Nat.reduceEqDiff, Go.Addr.add, ↓reduceIte] at hx295_0)
      have qi295 : (2 < t288.length) = True := eq_true (by omega)
      (try rw [show ((2 : Int)).toNat = 2 from rfl] at hx295_0)
      replace p295 := eq_true p295
      replace q295 := eq_true q295
      have p296 : 0 ≤ (3 : Int) := (by omega)
      have q296 : 3 < (t288.length : Int) := of_decide_eq_true (by first | (with_reducible assumption) | assumption)
      obtain ⟨ad296, e296, hx296_0⟩ := Kd.at_int (Kd.R_reads' HO290.out).2.2 3 p296 q296
      obtain rfl : ad293 = ad296 := (by injection e296)
      (try simp only [show (3 : Int).toNat = 3 from rfl, Nat.reduceMul, Nat.reduceEqDiff, Go.Addr.add, ↓reduceIte] at hx296_0)
      have qi296 : (3 < t288.length) = True := eq_true (by omega)
      (try rw [show ((3 : Int)).toNat = 3 from rfl] at hx296_0)
      replace p296 := eq_true p296
      replace q296 := eq_true q296
      refine start_ (n := 15) (S := fun w' => w'.cell? ad293 = some (.int .i64 (rd t288 0)) ∧ w'.cell? ⟨ad293.block, ad293.off + 1, none⟩ = some (.int .i64 (rd t288 1)) ∧ w'.cell? ⟨ad293.block, ad293.off + 2, none⟩ = some (.int .i64 (rd t288 2)) ∧ w'.cell? ⟨ad293.block, ad293.off + 3, none⟩ = some (.int .i64 (rd t288 3))) (ds := []) #[false, false, false, false, false, false, false, false, false, false, false, false, false, false, false] (by kernel_rfl) rfl rfl ⟨hx293_0, hx294_0, hx295_0, hx296_0⟩ (fun hHeld => ?_); refine with_tabW msg_Get.tab4 msg_Get.bits4 (fun HT_ HW_ => ?_)
      generalize w13.drew = w14 at HO287 HO290 BK284 HB hx293_0 hx294_0 hx295_0 hx296_0 hHeld ⊢
      refine qzc (i := 0) (N := some 20) (v := ?_) (a' := ?_) #[true, false, false, false, false, false, false, false, false, false, false, false, false, false, false] rfl rfl (qqr HT_.out (by kernel_rfl)) (fun _ _ _ h => h) (Or.inl ⟨by rfl, ?_⟩) ?_ ?_
      rotate_left
      ·intro w'
       go_simp
       with_reducible rfl
      rotate_left
      ·simp only [Act.put, List.setIfInBounds_toArray, List.set_cons_zero, List.set_cons_succ, qqy, qqz]
       rfl
      refine qzc (i := 1) (N := some 21) (v := ?_) (a' := ?_) #[true, true, false, false, false, false, false, false, false, false, false, false, false, false, false] rfl rfl (qqr HT_.out (by kernel_rfl)) (fun _ _ _ h => h) (Or.inl ⟨by rfl, ?_⟩) ?_ ?_
      rotate_left
      ·intro w'
       go_simp
       with_reducible rfl
      rotate_left
      ·simp only [Act.put, List.setIfInBounds_toArray, List.set_cons_zero, List.set_cons_succ, qqy, qqz]
       rfl
      refine qzc (i := 3) (N := some 23) (v := ?_) (a' := ?_) #[true, true, false, true, false, false, false, false, false, false, false, false, false, false, false] rfl rfl (qqr HT_.out (by kernel_rfl)) (fun _ _ _ h => h) (Or.inl ⟨by rfl, ?_⟩) ?_ ?_
      rotate_left
      ·intro w'
       go_simp
       with_reducible rfl
      rotate_left
      ·simp only [Act.put, List.setIfInBounds_toArray, List.set_cons_zero, List.set_cons_succ, qqy, qqz]
       rfl
      refine qzc (i := 4) (N := some 24) (v := ?_) (a' := ?_) #[true, true, false, true, true, false, false, false, false, false, false, false, false, false, false] rfl rfl (qqr HT_.out (by kernel_rfl)) (fun _ _ _ h => h) (Or.inl ⟨by rfl, ?_⟩) ?_ ?_
      rotate_left
      ·intro w'
       go_simp
       with_reducible rfl
      rotate_left
      ·simp only [Act.put, List.setIfInBounds_toArray, List.set_cons_zero, List.set_cons_succ, qqy, qqz]
       rfl
      refine qzc (i := 6) (N := some 26) (v := ?_) (a' := ?_) #[true, true, false, true, true, false, true, false, false, false, false, false, false, false, false] rfl rfl (qqr HT_.out (by kernel_rfl)) (fun _ _ _ h => h) (Or.inl ⟨by rfl, ?_⟩) ?_ ?_
      rotate_left
      ·intro w'
       go_simp
       with_reducible rfl
      rotate_left
      ·simp only [Act.put, List.setIfInBounds_toArray, List.set_cons_zero, List.set_cons_succ, qqy, qqz]
       rfl
      refine qzc (i := 7) (N := some 27) (v := ?_) (a' := ?_) #[true, true, false, true, true, false, true, true, false, false, false, false, false, false, false] rfl rfl (qqr HT_.out (by kernel_rfl)) (fun _ _ _ h => h) (Or.inl ⟨by rfl, ?_⟩) ?_ ?_
      rotate_left
      ·intro w'
       go_simp
       with_reducible rfl
      rotate_left
      ·simp only [Act.put, List.setIfInBounds_toArray, List.set_cons_zero, List.set_cons_succ, qqy, qqz]
       rfl
      refine qzc (i := 9) (N := some 29) (v := ?_) (a' := ?_) #[true, true, false, true, true, false, true, true, false, true, false, false, false, false, false] rfl rfl (qqr HT_.out (by kernel_rfl)) (fun _ _ _ h => h) (Or.inl ⟨by rfl, ?_⟩) ?_ ?_
      rotate_left
      ·intro w'
       go_simp
       with_reducible rfl
      rotate_left
      ·simp only [Act.put, List.setIfInBounds_toArray, List.set_cons_zero, List.set_cons_succ, qqy, qqz]
       rfl
      refine qzc (i := 10) (N := some 30) (v := ?_) (a' := ?_) #[true, true, false, true, true, false, true, true, false, true, true, false, false, false, false] rfl rfl (qqr HT_.out (by kernel_rfl)) (fun _ _ _ h => h) (Or.inl ⟨by rfl, ?_⟩) ?_ ?_
      rotate_left
      ·intro w'
       go_simp
       with_reducible rfl
      rotate_left
      ·simp only [Act.put, List.setIfInBounds_toArray, List.set_cons_zero, List.set_cons_succ, qqy, qqz]
       rfl
      refine take_ (i := 2) (N := some 22) (v := ?_) (a' := ?_) #[true, true, true, true, true, false, true, true, false, true, true, false, false, false, false] rfl rfl (take_ofW HT_.out HW_.out (by kernel_rfl)) (fun _ _ _ h => h) (Or.inl ⟨by rfl, ?_⟩) hHeld ?_ ?_
      rotate_left
      ·rintro w' ⟨s0, s1, s2, s3⟩
       go_simp
       with_reducible rfl
      rotate_left
      ·simp only [Act.put, List.setIfInBounds_toArray, List.set_cons_zero, List.set_cons_succ, qqy, qqz]
       rfl
      refine take_ (i := 5) (N := some 25) (v := ?_) (a' := ?_) #[true, true, true, true, true, true, true, true, false, true, true, false, false, false, false] rfl rfl (take_ofW HT_.out HW_.out (by kernel_rfl)) (fun _ _ _ h => h) (Or.inl ⟨by rfl, ?_⟩) hHeld ?_ ?_
      rotate_left
      ·rintro w' ⟨s0, s1, s2, s3⟩
       go_simp
       with_reducible rfl
      rotate_left
      ·simp only [Act.put, List.setIfInBounds_toArray, List.set_cons_zero, List.set_cons_succ, qqy, qqz]
       rfl
      refine take_ (i := 8) (N := some 28) (v := ?_) (a' := ?_) #[true, true, true, true, true, true, true, true, true, true, true, false, false, false, false] rfl rfl (take_ofW HT_.out HW_.out (by kernel_rfl)) (fun _ _ _ h => h) (Or.inl ⟨by rfl, ?_⟩) hHeld ?_ ?_
      rotate_left
      ·rintro w' ⟨s0, s1, s2, s3⟩
       go_simp
       with_reducible rfl
      rotate_left
      ·simp only [Act.put, List.setIfInBounds_toArray, List.set_cons_zero, List.set_cons_succ, qqy, qqz]
       rfl
      refine take_ (i := 11) (N := some 31) (v := ?_) (a' := ?_) #[true, true, true, true, true, true, true, true, true, true, true, true, false, false, false] rfl rfl (take_ofW HT_.out HW_.out (by kernel_rfl)) (fun _ _ _ h => h) (Or.inl ⟨by rfl, ?_⟩) hHeld ?_ ?_
      rotate_left
      ·rintro w' ⟨s0, s1, s2, s3⟩
       go_simp
       with_reducible rfl
      rotate_left
      ·simp only [Act.put, List.setIfInBounds_toArray, List.set_cons_zero, List.set_cons_succ, qqy, qqz]
       rfl
      refine qzc (i := 12) (N := some 32) (v := ?_) (a' := ?_) #[true, true, true, true, true, true, true, true, true, true, true, true, true, false, false] rfl rfl (qqr HT_.out (by kernel_rfl)) (fun _ _ _ h => h) (Or.inl ⟨by rfl, ?_⟩) ?_ ?_
      rotate_left
      ·intro w'
       go_simp
       with_reducible rfl
      rotate_left
      ·simp only [Act.put, List.setIfInBounds_toArray, List.set_cons_zero, List.set_cons_succ, qqy, qqz]
       rfl
      refine one_ (i := 13) (N := some 7) #[true, true, true, true, true, true, true, true, true, true, true, true, true, true, false] rfl rfl (one_of HT_.out (by kernel_rfl)) (by decide) (fun K hK => ?_)
      refine box_step ?hg (N := 7) ?hd (cs := #[.int .i64 0, .int .i64 0, .int .i64 0, .int .i64 0, .int .i64 0, .int .i64 0, .int .i64 0, .int .i64 0, .int .i64 0, .int .i64 0]) (t := 29) ?hr ?_; (case hd => rfl); (case hg => rfl); (case hr => first | (go_simp; done) | (go_simp; rfl))
      intro gb297 hg w16 hbox hb
      have HS0_ := (hb.cell (World.block_lt_of_cell? _ _ (hHeld.1))).trans (hHeld.1)
      have HS1_ := (hb.cell (World.block_lt_of_cell? _ _ (hHeld.2.1))).trans (hHeld.2.1)
      have HS2_ := (hb.cell (World.block_lt_of_cell? _ _ (hHeld.2.2.1))).trans (hHeld.2.2.1)
      have HS3_ := (hb.cell (World.block_lt_of_cell? _ _ (hHeld.2.2.2))).trans (hHeld.2.2.2)
      have n0_ := Aside0.mk (Kd.R_below (by (with_reducible repeat (first | apply Kd.R_alloc | apply Kd.R_drewN | apply Kd.R_drew)); exact HO287.out) hb)
      have n1_ := Aside0.mk (Kd.R_below (by (with_reducible repeat (first | apply Kd.R_alloc | apply Kd.R_drewN | apply Kd.R_drew)); exact HO290.out) hb)
      have n2_ := Aside0.mk (qqk (g := gb284) (o := .cells #[.int .i64 0, .int .i64 0, .int .i64 0, .int .i64 0, .int .i64 0, .int .i64 0, .int .i64 0, .int .i64 0, .int .i64 0, .int .i64 0] 29 (0, 0)) (by (with_reducible repeat (first | refine qqd ?_ _ | refine qqg ?_ | refine qqe ?_ _)); exact BK284.out) hb)
      have n3_ := Aside0.mk (qqi (by repeat (first | (with_reducible first | exact HB.out | apply qqc | apply qqa | apply qqb | refine qqf ?_ GE284.out) | exact HB.out)) hb)
      have n4_ := Aside0.mk (hbox)
      have n5_ := Aside0.mk ((by rw [hg]; exact (qqj (by repeat (first | (with_reducible first | exact HB.out | apply qqc | apply qqa | apply qqb | refine qqf ?_ GE284.out) | exact HB.out))) : w.heap.size ≤ gb297))
      have n6_ := Aside0.mk ((by rw [hg]; exact (qqj (by repeat (first | (with_reducible first | exact HB.out | apply qqc | apply qqa | apply qqb | refine qqf ?_ GE284.out) | exact HB.out))) : w.heap.size ≤ gb297))
      have n7_ := Aside0.mk ((by rw [hg]; exact Nat.ne_of_lt (blk_lt (g := gb284) (o := .cells #[.int .i64 0, .int .i64 0, .int .i64 0, .int .i64 0, .int .i64 0, .int .i64 0, .int .i64 0, .int .i64 0, .int .i64 0, .int .i64 0] 29 (0, 0)) (by (with_reducible repeat (first | refine qqd ?_ _ | refine qqg ?_ | refine qqe ?_ _)); exact BK284.out)) : gb284 ≠ gb297))
      have n8_ := Aside0.mk ((by rw [hg]; exact Nat.ne_of_gt (blk_lt (g := gb284) (o := .cells #[.int .i64 0, .int .i64 0, .int .i64 0, .int .i64 0, .int .i64 0, .int .i64 0, .int .i64 0, .int .i64 0, .int .i64 0, .int .i64 0] 29 (0, 0)) (by (with_reducible repeat (first | refine qqd ?_ _ | refine qqg ?_ | refine qqe ?_ _)); exact BK284.out)) : gb297 ≠ gb284))
      clear HO287
      clear HO290
      clear BK284
      clear HB
      have HO287 := n0_
      have HO290 := n1_
      have BK284 := n2_
      have HB := n3_
      have BK297 := n4_
      have GW297 := n5_
      have GE297 := n6_
      have NB284_297 := n7_
      have NB297_284 := n8_
      clear n0_ n1_ n2_ n3_ n4_ n5_ n6_ n7_ n8_
      clear hb hbox hg
      refine hK.out _ _ ⟨HS0_, HS1_, HS2_, HS3_⟩ (fun hHeld => ?_)
      clear hK K
      refine norm_ (a' := ?_) ?_ ?_
      rotate_left
      ·show Act.put _ (some 7) _ = _
       simp only [Act.put, List.setIfInBounds_toArray, List.set_cons_zero, List.set_cons_succ, qqy, qqz]
       rfl
      refine one_ (i := 14) (N := none) #[true, true, true, true, true, true, true, true, true, true, true, true, true, true, true] rfl rfl (one_of HT_.out (by kernel_rfl)) (by decide) (fun K hK => ?_)
      have hs17 : w16.cell? ⟨gb297, 0, none⟩ = some (.int .i64 0) := (qqs BK297.out 0).trans rfl
      have hfs17 := qqn BK297.out 0
      have hns17_0 := NB284_297.out
      have hms17_0 := NB297_284.out
      have hs18 : w16.cell? ⟨gb297, 1, none⟩ = some (.int .i64 0) := (qqs BK297.out 1).trans rfl
      have hfs18 := qqn BK297.out 1
      have hns18_0 := NB284_297.out
      have hms18_0 := NB297_284.out
      have hs19 : w16.cell? ⟨gb297, 2, none⟩ = some (.int .i64 0) := (qqs BK297.out 2).trans rfl
      have hfs19 := qqn BK297.out 2
      have hns19_0 := NB284_297.out
      have hms19_0 := NB297_284.out
      have hs20 : w16.cell? ⟨gb297, 3, none⟩ = some (.int .i64 0) := (qqs BK297.out 3).trans rfl
      have hfs20 := qqn BK297.out 3
      have hns20_0 := NB284_297.out
      have hms20_0 := NB297_284.out
      have hs21 : w16.cell? ⟨gb297, 4, none⟩ = some (.int .i64 0) := (qqs BK297.out 4).trans rfl
      have hfs21 := qqn BK297.out 4
      have hns21_0 := NB284_297.out
      have hms21_0 := NB297_284.out
      have hs22 : w16.cell? ⟨gb297, 5, none⟩ = some (.int .i64 0) := (qqs BK297.out 5).trans rfl
      have hfs22 := qqn BK297.out 5
      have hns22_0 := NB284_297.out
      have hms22_0 := NB297_284.out
      have hs23 : w16.cell? ⟨gb297, 6, none⟩ = some (.int .i64 0) := (qqs BK297.out 6).trans rfl
      have hfs23 := qqn BK297.out 6
      have hns23_0 := NB284_297.out
      have hms23_0 := NB297_284.out
      have hs24 : w16.cell? ⟨gb297, 7, none⟩ = some (.int .i64 0) := (qqs BK297.out 7).trans rfl
      have hfs24 := qqn BK297.out 7
      have hns24_0 := NB284_297.out
      have hms24_0 := NB297_284.out
      have hs25 : w16.cell? ⟨gb297, 8, none⟩ = some (.int .i64 0) := (qqs BK297.out 8).trans rfl
      have hfs25 := qqn BK297.out 8
      have hns25_0 := NB284_297.out
      have hms25_0 := NB297_284.out
      have hs26 : w16.cell? ⟨gb297, 9, none⟩ = some (.int .i64 0) := (qqs BK297.out 9).trans rfl
      have hfs26 := qqn BK297.out 9
      have hns26_0 := NB284_297.out
      have hms26_0 := NB297_284.out
      refine skip_ (w1 := ?_) (by rfl) rfl ?_ ?_
      rotate_left
      ·go_simp
       rfl
      refine hK.out _ _ ⟨((qzb (p := ⟨gb297, _, none⟩) (by first | exact Kd.own_blk (Kd.R_ne HO290.out BK297.out (by decide)) | (rw [qqh]; exact Kd.own_blk (Kd.R_ne HO290.out BK297.out (by decide))) | (show (Addr.add _ _).block ≠ _; rw [qqh]; exact Kd.own_blk (Kd.R_ne HO290.out BK297.out (by decide))) | (dsimp only; exact Kd.own_blk (Kd.R_ne HO290.out BK297.out (by decide)))) _).trans (((qzb (p := ⟨gb297, _, none⟩) (by first | exact Kd.own_blk (Kd.R_ne HO290.out BK297.out (by decide)) | (rw [qqh]; exact Kd.own_blk (Kd.R_ne HO290.out BK297.out (by decide))) | (show (Addr.add _ _).block ≠ _; rw [qqh]; exact Kd.own_blk (Kd.R_ne HO290.out BK297.out (by decide))) | (dsimp only; exact Kd.own_blk (Kd.R_ne HO290.out BK297.out (by decide)))) _).trans (((qzb (p := ⟨gb297, _, none⟩) (by first | exact Kd.own_blk (Kd.R_ne HO290.out BK297.out (by decide)) | (rw [qqh]; exact Kd.own_blk (Kd.R_ne HO290.out BK297.out (by decide))) | (show (Addr.add _ _).block ≠ _; rw [qqh]; exact Kd.own_blk (Kd.R_ne HO290.out BK297.out (by decide))) | (dsimp only; exact Kd.own_blk (Kd.R_ne HO290.out BK297.out (by decide)))) _).trans (((qzb (p := ⟨gb297, _, none⟩) (by first | exact Kd.own_blk (Kd.R_ne HO290.out BK297.out (by decide)) | (rw [qqh]; exact Kd.own_blk (Kd.R_ne HO290.out BK297.out (by decide))) | (show (Addr.add _ _).block ≠ _; rw [qqh]; exact Kd.own_blk (Kd.R_ne HO290.out BK297.out (by decide))) | (dsimp only; exact Kd.own_blk (Kd.R_ne HO290.out BK297.out (by decide)))) _).trans (((qzb (p := ⟨gb297, _, none⟩) (by first | exact Kd.own_blk (Kd.R_ne HO290.out BK297.out (by decide)) | (rw [qqh]; exact Kd.own_blk (Kd.R_ne HO290.out BK297.out (by decide))) | (show (Addr.add _ _).block ≠ _; rw [qqh]; exact Kd.own_blk (Kd.R_ne HO290.out BK297.out (by decide))) | (dsimp only; exact Kd.own_blk (Kd.R_ne HO290.out BK297.out (by decide)))) _).trans (((qzb (p := ⟨gb297, _, none⟩) (by first | exact Kd.own_blk (Kd.R_ne HO290.out BK297.out (by decide)) | (rw [qqh]; exact Kd.own_blk (Kd.R_ne HO290.out BK297.out (by decide))) | (show (Addr.add _ _).block ≠ _; rw [qqh]; exact Kd.own_blk (Kd.R_ne HO290.out BK297.out (by decide))) | (dsimp only; exact Kd.own_blk (Kd.R_ne HO290.out BK297.out (by decide)))) _).trans (((qzb (p := ⟨gb297, _, none⟩) (by first | exact Kd.own_blk (Kd.R_ne HO290.out BK297.out (by decide)) | (rw [qqh]; exact Kd.own_blk (Kd.R_ne HO290.out BK297.out (by decide))) | (show (Addr.add _ _).block ≠ _; rw [qqh]; exact Kd.own_blk (Kd.R_ne HO290.out BK297.out (by decide))) | (dsimp only; exact Kd.own_blk (Kd.R_ne HO290.out BK297.out (by decide)))) _).trans (((qzb (p := ⟨gb297, _, none⟩) (by first | exact Kd.own_blk (Kd.R_ne HO290.out BK297.out (by decide)) | (rw [qqh]; exact Kd.own_blk (Kd.R_ne HO290.out BK297.out (by decide))) | (show (Addr.add _ _).block ≠ _; rw [qqh]; exact Kd.own_blk (Kd.R_ne HO290.out BK297.out (by decide))) | (dsimp only; exact Kd.own_blk (Kd.R_ne HO290.out BK297.out (by decide)))) _).trans (((qzb (p := ⟨gb297, _, none⟩) (by first | exact Kd.own_blk (Kd.R_ne HO290.out BK297.out (by decide)) | (rw [qqh]; exact Kd.own_blk (Kd.R_ne HO290.out BK297.out (by decide))) | (show (Addr.add _ _).block ≠ _; rw [qqh]; exact Kd.own_blk (Kd.R_ne HO290.out BK297.out (by decide))) | (dsimp only; exact Kd.own_blk (Kd.R_ne HO290.out BK297.out (by decide)))) _).trans (((qzb (p := ⟨gb297, _, none⟩) (by first | exact Kd.own_blk (Kd.R_ne HO290.out BK297.out (by decide)) | (rw [qqh]; exact Kd.own_blk (Kd.R_ne HO290.out BK297.out (by decide))) | (show (Addr.add _ _).block ≠ _; rw [qqh]; exact Kd.own_blk (Kd.R_ne HO290.out BK297.out (by decide))) | (dsimp only; exact Kd.own_blk (Kd.R_ne HO290.out BK297.out (by decide)))) _).trans (hHeld.1)))))))))))))))))))), ((qzb (p := ⟨gb297, _, none⟩) (by first | exact Kd.own_blk (Kd.R_ne HO290.out BK297.out (by decide)) | (rw [qqh]; exact Kd.own_blk (Kd.R_ne HO290.out BK297.out (by decide))) | (show (Addr.add _ _).block ≠ _; rw [qqh]; exact Kd.own_blk (Kd.R_ne HO290.out BK297.out (by decide))) | (dsimp only; exact Kd.own_blk (Kd.R_ne HO290.out BK297.out (by decide)))) _).trans (((qzb (p := ⟨gb297, _, none⟩) (by first | exact Kd.own_blk (Kd.R_ne HO290.out BK297.out (by decide)) | (rw [qqh]; exact Kd.own_blk (Kd.R_ne HO290.out BK297.out (by decide))) | (show (Addr.add _ _).block ≠ _; rw [qqh]; exact Kd.own_blk (Kd.R_ne HO290.out BK297.out (by decide))) | (dsimp only; exact Kd.own_blk (Kd.R_ne HO290.out BK297.out (by decide)))) _).trans (((qzb (p := ⟨gb297, _, none⟩) (by first | exact Kd.own_blk (Kd.R_ne HO290.out BK297.out (by decide)) | (rw [qqh]; exact Kd.own_blk (Kd.R_ne HO290.out BK297.out (by decide))) | (show (Addr.add _ _).block ≠ _; rw [qqh]; exact Kd.own_blk (Kd.R_ne HO290.out BK297.out (by decide))) | (dsimp only; exact Kd.own_blk (Kd.R_ne HO290.out BK297.out (by decide)))) _).trans (((qzb (p := ⟨gb297, _, none⟩) (by first | exact Kd.own_blk (Kd.R_ne HO290.out BK297.out (by decide)) | (rw [qqh]; exact Kd.own_blk (Kd.R_ne HO290.out BK297.out (by decide))) | (show (Addr.add _ _).block ≠ _; rw [qqh]; exact Kd.own_blk (Kd.R_ne HO290.out BK297.out (by decide))) | (dsimp only; exact Kd.own_blk (Kd.R_ne HO290.out BK297.out (by decide)))) _).trans (((qzb (p := ⟨gb297, _, none⟩) (by first | exact Kd.own_blk (Kd.R_ne HO290.out BK297.out (by decide)) | (rw [qqh]; exact Kd.own_blk (Kd.R_ne HO290.out BK297.out (by decide))) | (show (Addr.add _ _).block ≠ _; rw [qqh]; exact Kd.own_blk (Kd.R_ne HO290.out BK297.out (by decide))) | (dsimp only; exact Kd.own_blk (Kd.R_ne HO290.out BK297.out (by decide)))) _).trans (((qzb (p := ⟨gb297, _, none⟩) (by first | exact Kd.own_blk (Kd.R_ne HO290.out BK297.out (by decide)) | (rw [qqh]; exact Kd.own_blk (Kd.R_ne HO290.out BK297.out (by decide))) | (show (Addr.add _ _).block ≠ _; rw [qqh]; exact Kd.own_blk (Kd.R_ne HO290.out BK297.out (by decide))) | (dsimp only; exact Kd.own_blk (Kd.R_ne HO290.out BK297.out (by decide)))) _).trans (((qzb (p := ⟨gb297, _, none⟩) (by first | exact Kd.own_blk (Kd.R_ne HO290.out BK297.out (by decide)) | (rw [qqh]; exact Kd.own_blk (Kd.R_ne HO290.out BK297.out (by decide))) | (show (Addr.add _ _).block ≠ _; rw [qqh]; exact Kd.own_blk (Kd.R_ne HO290.out BK297.out (by decide))) | (dsimp only; exact Kd.own_blk (Kd.R_ne HO290.out BK297.out (by decide)))) _).trans (((qzb (p := ⟨gb297, _, none⟩) (by first | exact Kd.own_blk (Kd.R_ne HO290.out BK297.out (by decide)) | (rw [qqh]; exact Kd.own_blk (Kd.R_ne HO290.out BK297.out (by decide))) | (show (Addr.add _ _).block ≠ _; rw [qqh]; exact Kd.own_blk (Kd.R_ne HO290.out BK297.out (by decide))) | (dsimp only; exact Kd.own_blk (Kd.R_ne HO290.out BK297.out (by decide)))) _).trans (((qzb (p := ⟨gb297, _, none⟩) (by first | exact Kd.own_blk (Kd.R_ne HO290.out BK297.out (by decide)) | (rw [qqh]; exact Kd.own_blk (Kd.R_ne HO290.out BK297.out (by decide))) | (show (Addr.add _ _).block ≠ _; rw [qqh]; exact Kd.own_blk (Kd.R_ne HO290.out BK297.out (by decide))) | (dsimp only; exact Kd.own_blk (Kd.R_ne HO290.out BK297.out (by decide)))) _).trans (((qzb (p := ⟨gb297, _, none⟩) (by first | exact Kd.own_blk (Kd.R_ne HO290.out BK297.out (by decide)) | (rw [qqh]; exact Kd.own_blk (Kd.R_ne HO290.out BK297.out (by decide))) | (show (Addr.add _ _).block ≠ _; rw [qqh]; exact Kd.own_blk (Kd.R_ne HO290.out BK297.out (by decide))) | (dsimp only; exact Kd.own_blk (Kd.R_ne HO290.out BK297.out (by decide)))) _).trans (hHeld.2.1)))))))))))))))))))), ((qzb (p := ⟨gb297, _, none⟩) (by first | exact Kd.own_blk (Kd.R_ne HO290.out BK297.out (by decide)) | (rw [qqh]; exact Kd.own_blk (Kd.R_ne HO290.out BK297.out (by decide))) | (show (Addr.add _ _).block ≠ _; rw [qqh]; exact Kd.own_blk (Kd.R_ne HO290.out BK297.out (by decide))) | (dsimp only; exact Kd.own_blk (Kd.R_ne HO290.out BK297.out (by decide)))) _).trans (((qzb (p := ⟨gb297, _, none⟩) (by first | exact Kd.own_blk (Kd.R_ne HO290.out BK297.out (by decide)) | (rw [qqh]; exact Kd.own_blk (Kd.R_ne HO290.out BK297.out (by decide))) | (show (Addr.add _ _).block ≠ _; rw [qqh]; exact Kd.own_blk (Kd.R_ne HO290.out BK297.out (by decide))) | (dsimp only; exact Kd.own_blk (Kd.R_ne HO290.out BK297.out (by decide)))) _).trans (((qzb (p := ⟨gb297, _, none⟩) (by first | exact Kd.own_blk (Kd.R_ne HO290.out BK297.out (by decide)) | (rw [qqh]; exact Kd.own_blk (Kd.R_ne HO290.out BK297.out (by decide))) | (show (Addr.add _ _).block ≠ _; rw [qqh]; exact Kd.own_blk (Kd.R_ne HO290.out BK297.out (by decide))) | (dsimp only; exact Kd.own_blk (Kd.R_ne HO290.out BK297.out (by decide)))) _).trans (((qzb (p := ⟨gb297, _, none⟩) (by first | exact Kd.own_blk (Kd.R_ne HO290.out BK297.out (by decide)) | (rw [qqh]; exact Kd.own_blk (Kd.R_ne HO290.out BK297.out (by decide))) | (show (Addr.add _ _).block ≠ _; rw [qqh]; exact Kd.own_blk (Kd.R_ne HO290.out BK297.out (by decide))) | (dsimp only; exact Kd.own_blk (Kd.R_ne HO290.out BK297.out (by decide)))) _).trans (((qzb (p := ⟨gb297, _, none⟩) (by first | exact Kd.own_blk (Kd.R_ne HO290.out BK297.out (by decide)) | (rw [qqh]; exact Kd.own_blk (Kd.R_ne HO290.out BK297.out (by decide))) | (show (Addr.add _ _).block ≠ _; rw [qqh]; exact Kd.own_blk (Kd.R_ne HO290.out BK297.out (by decide))) | (dsimp only; exact Kd.own_blk (Kd.R_ne HO290.out BK297.out (by decide)))) _).trans (((qzb (p := ⟨gb297, _, none⟩) (by first | exact Kd.own_blk (Kd.R_ne HO290.out BK297.out (by decide)) | (rw [qqh]; exact Kd.own_blk (Kd.R_ne HO290.out BK297.out (by decide))) | (show (Addr.add _ _).block ≠ _; rw [qqh]; exact Kd.own_blk (Kd.R_ne HO290.out BK297.out (by decide))) | (dsimp only; exact Kd.own_blk (Kd.R_ne HO290.out BK297.out (by decide)))) _).trans (((qzb (p := ⟨gb297, _, none⟩) (by first | exact Kd.own_blk (Kd.R_ne HO290.out BK297.out (by decide)) | (rw [qqh]; exact Kd.own_blk (Kd.R_ne HO290.out BK297.out (by decide))) | (show (Addr.add _ _).block ≠ _; rw [qqh]; exact Kd.own_blk (Kd.R_ne HO290.out BK297.out (by decide))) | (dsimp only; exact Kd.own_blk (Kd.R_ne HO290.out BK297.out (by decide)))) _).trans (((qzb (p := ⟨gb297, _, none⟩) (by first | exact Kd.own_blk (Kd.R_ne HO290.out BK297.out (by decide)) | (rw [qqh]; exact Kd.own_blk (Kd.R_ne HO290.out BK297.out (by decide))) | (show (Addr.add _ _).block ≠ _; rw [qqh]; exact Kd.own_blk (Kd.R_ne HO290.out BK297.out (by decide))) | (dsimp only; exact Kd.own_blk (Kd.R_ne HO290.out BK297.out (by decide)))) _).trans (((qzb (p := ⟨gb297, _, none⟩) (by first | exact Kd.own_blk (Kd.R_ne HO290.out BK297.out (by decide)) | (rw [qqh]; exact Kd.own_blk (Kd.R_ne HO290.out BK297.out (by decide))) | (show (Addr.add _ _).block ≠ _; rw [qqh]; exact Kd.own_blk (Kd.R_ne HO290.out BK297.out (by decide))) | (dsimp only; exact Kd.own_blk (Kd.R_ne HO290.out BK297.out (by decide)))) _).trans (((qzb (p := ⟨gb297, _, none⟩) (by first | exact Kd.own_blk (Kd.R_ne HO290.out BK297.out (by decide)) | (rw [qqh]; exact Kd.own_blk (Kd.R_ne HO290.out BK297.out (by decide))) | (show (Addr.add _ _).block ≠ _; rw [qqh]; exact Kd.own_blk (Kd.R_ne HO290.out BK297.out (by decide))) | (dsimp only; exact Kd.own_blk (Kd.R_ne HO290.out BK297.out (by decide)))) _).trans (hHeld.2.2.1)))))))))))))))))))), ((qzb (p := ⟨gb297, _, none⟩) (by first | exact Kd.own_blk (Kd.R_ne HO290.out BK297.out (by decide)) | (rw [qqh]; exact Kd.own_blk (Kd.R_ne HO290.out BK297.out (by decide))) | (show (Addr.add _ _).block ≠ _; rw [qqh]; exact Kd.own_blk (Kd.R_ne HO290.out BK297.out (by decide))) | (dsimp only; exact Kd.own_blk (Kd.R_ne HO290.out BK297.out (by decide)))) _).trans (((qzb (p := ⟨gb297, _, none⟩) (by first | exact Kd.own_blk (Kd.R_ne HO290.out BK297.out (by decide)) | (rw [qqh]; exact Kd.own_blk (Kd.R_ne HO290.out BK297.out (by decide))) | (show (Addr.add _ _).block ≠ _; rw [qqh]; exact Kd.own_blk (Kd.R_ne HO290.out BK297.out (by decide))) | (dsimp only; exact Kd.own_blk (Kd.R_ne HO290.out BK297.out (by decide)))) _).trans (((qzb (p := ⟨gb297, _, none⟩) (by first | exact Kd.own_blk (Kd.R_ne HO290.out BK297.out (by decide)) | (rw [qqh]; exact Kd.own_blk (Kd.R_ne HO290.out BK297.out (by decide))) | (show (Addr.add _ _).block ≠ _; rw [qqh]; exact Kd.own_blk (Kd.R_ne HO290.out BK297.out (by decide))) | (dsimp only; exact Kd.own_blk (Kd.R_ne HO290.out BK297.out (by decide)))) _).trans (((qzb (p := ⟨gb297, _, none⟩) (by first | exact Kd.own_blk (Kd.R_ne HO290.out BK297.out (by decide)) | (rw [qqh]; exact Kd.own_blk (Kd.R_ne HO290.out BK297.out (by decide))) | (show (Addr.add _ _).block ≠ _; rw [qqh]; exact Kd.own_blk (Kd.R_ne HO290.out BK297.out (by decide))) | (dsimp only; exact Kd.own_blk (Kd.R_ne HO290.out BK297.out (by decide)))) _).trans (((qzb (p := ⟨gb297, _, none⟩) (by first | exact Kd.own_blk (Kd.R_ne HO290.out BK297.out (by decide)) | (rw [qqh]; exact Kd.own_blk (Kd.R_ne HO290.out BK297.out (by decide))) | (show (Addr.add _ _).block ≠ _; rw [qqh]; exact Kd.own_blk (Kd.R_ne HO290.out BK297.out (by decide))) | (dsimp only; exact Kd.own_blk (Kd.R_ne HO290.out BK297.out (by decide)))) _).trans (((qzb (p := ⟨gb297, _, none⟩) (by first | exact Kd.own_blk (Kd.R_ne HO290.out BK297.out (by decide)) | (rw [qqh]; exact Kd.own_blk (Kd.R_ne HO290.out BK297.out (by decide))) | (show (Addr.add _ _).block ≠ _; rw [qqh]; exact Kd.own_blk (Kd.R_ne HO290.out BK297.out (by decide))) | (dsimp only; exact Kd.own_blk (Kd.R_ne HO290.out BK297.out (by decide)))) _).trans (((qzb (p := ⟨gb297, _, none⟩) (by first | exact Kd.own_blk (Kd.R_ne HO290.out BK297.out (by decide)) | (rw [qqh]; exact Kd.own_blk (Kd.R_ne HO290.out BK297.out (by decide))) | (show (Addr.add _ _).block ≠ _; rw [qqh]; exact Kd.own_blk (Kd.R_ne HO290.out BK297.out (by decide))) | (dsimp only; exact Kd.own_blk (Kd.R_ne HO290.out BK297.out (by decide)))) _).trans (((qzb (p := ⟨gb297, _, none⟩) (by first | exact Kd.own_blk (Kd.R_ne HO290.out BK297.out (by decide)) | (rw [qqh]; exact Kd.own_blk (Kd.R_ne HO290.out BK297.out (by decide))) | (show (Addr.add _ _).block ≠ _; rw [qqh]; exact Kd.own_blk (Kd.R_ne HO290.out BK297.out (by decide))) | (dsimp only; exact Kd.own_blk (Kd.R_ne HO290.out BK297.out (by decide)))) _).trans (((qzb (p := ⟨gb297, _, none⟩) (by first | exact Kd.own_blk (Kd.R_ne HO290.out BK297.out (by decide)) | (rw [qqh]; exact Kd.own_blk (Kd.R_ne HO290.out BK297.out (by decide))) | (show (Addr.add _ _).block ≠ _; rw [qqh]; exact Kd.own_blk (Kd.R_ne HO290.out BK297.out (by decide))) | (dsimp only; exact Kd.own_blk (Kd.R_ne HO290.out BK297.out (by decide)))) _).trans (((qzb (p := ⟨gb297, _, none⟩) (by first | exact Kd.own_blk (Kd.R_ne HO290.out BK297.out (by decide)) | (rw [qqh]; exact Kd.own_blk (Kd.R_ne HO290.out BK297.out (by decide))) | (show (Addr.add _ _).block ≠ _; rw [qqh]; exact Kd.own_blk (Kd.R_ne HO290.out BK297.out (by decide))) | (dsimp only; exact Kd.own_blk (Kd.R_ne HO290.out BK297.out (by decide)))) _).trans (hHeld.2.2.2))))))))))))))))))))⟩ (fun hHeld => ?_)
      clear hK K
      refine done_ (done_of HT_.out (by kernel_rfl)) ?_
      have hnb27 := NB297_284.out
      have hnc27 := NB284_297.out
      obtain ⟨hcz28_0, hcz28_1, hcz28_2, hcz28_3, hcz28_4, hcz28_5, hcz28_6, hcz28_7, hcz28_8, hcz28_9⟩ := bcells10 BK297.out
      obtain ⟨hfz28_0, hfz28_1, hfz28_2, hfz28_3, hfz28_4, hfz28_5, hfz28_6, hfz28_7, hfz28_8, hfz28_9⟩ := qzd BK297.out
      go_upto_if 35 with (fail)
      go_cut [8] (fun v8 wc => ∃ (kq : Nat) (x8_7 : Int), v8 = .int .i64 x8_7 ∧ Aside0 (msg_Get.j0 kq l0 t291 x8_7 (rd t288 0) (rd t288 1) (rd t288 2) (rd t288 3) 0 0 0 0 0 0 = some (r1, r2, r3, r4, r5, r6, r7, r8, r9, r10, r11)) ∧ Aside0 (kq ≤ k) ∧ Aside0 (wc.heap[gb284]? = some (.cells #[.int .i64 0, .int .i64 0, .int .i64 0, .int .i64 0, .int .i64 0, .int .i64 0, .int .i64 0, .int .i64 0, .int .i64 0, .int .i64 0] 29 (0, 0))) ∧ Aside0 (wc.heap[gb297]? = some (.cells #[.int .i64 (rd t288 0), .int .i64 (rd t288 1), .int .i64 (rd t288 2), .int .i64 (rd t288 3), .int .i64 0, .int .i64 0, .int .i64 0, .int .i64 0, .int .i64 0, .int .i64 0] 29 (0, 0))) ∧ Aside0 (Below w.heap.size w wc))
      case first =>
       have H := HC8.out
       clear HC8
       by_cases c29 : (rd t288 0) = 2
       ·rw [if_pos c29] at H
        have c29b0 : ((rd t288 0) == 2) = true := beq_iff_eq.mpr c29
        have c29b1 : ((rd t288 0) != 2) = false := bne_eq_false_iff_eq.mpr c29
        clear c29
        (first | rw [c29b0] | (simp only [qqy, qqz]; rw [c29b0]) | skip)
        have H' := Aside0.mk H
        clear H
        go_wp2
        go_meet
        case rel => exact ⟨_, (18), (by first | rfl | (simp; done) | (simp [*]; done)), H', ⟨by first | omega | exact Nat.le_refl _⟩, ⟨by (with_reducible repeat (first | refine qqd ?_ _ | refine qqg ?_ | refine qqe ?_ _)); refine qqm ?_ NB284_297.out _; (with_reducible repeat (first | refine qqd ?_ _ | refine qqg ?_ | refine qqe ?_ _)); refine qqm ?_ NB284_297.out _; (with_reducible repeat (first | refine qqd ?_ _ | refine qqg ?_ | refine qqe ?_ _)); refine qqm ?_ NB284_297.out _; (with_reducible repeat (first | refine qqd ?_ _ | refine qqg ?_ | refine qqe ?_ _)); refine qqm ?_ NB284_297.out _; (with_reducible repeat (first | refine qqd ?_ _ | refine qqg ?_ | refine qqe ?_ _)); refine qqm ?_ NB284_297.out _; (with_reducible repeat (first | refine qqd ?_ _ | refine qqg ?_ | refine qqe ?_ _)); refine qqm ?_ NB284_297.out _; (with_reducible repeat (first | refine qqd ?_ _ | refine qqg ?_ | refine qqe ?_ _)); refine qqm ?_ NB284_297.out _; (with_reducible repeat (first | refine qqd ?_ _ | refine qqg ?_ | refine qqe ?_ _)); refine qqm ?_ NB284_297.out _; (with_reducible repeat (first | refine qqd ?_ _ | refine qqg ?_ | refine qqe ?_ _)); refine qqm ?_ NB284_297.out _; (with_reducible repeat (first | refine qqd ?_ _ | refine qqg ?_ | refine qqe ?_ _)); refine qqm ?_ NB284_297.out _; (with_reducible repeat (first | refine qqd ?_ _ | refine qqg ?_ | refine qqe ?_ _)); exact BK284.out⟩, ⟨by (with_reducible repeat (first | refine qqd ?_ _ | refine qqg ?_ | refine qqe ?_ _)); refine qqo (cs := #[.int .i64 (rd t288 0), .int .i64 (rd t288 1), .int .i64 (rd t288 2), .int .i64 (rd t288 3), .int .i64 0, .int .i64 0, .int .i64 0, .int .i64 0, .int .i64 0, .int .i64 0]) ?_ 9 _ rfl; (with_reducible repeat (first | refine qqd ?_ _ | refine qqg ?_ | refine qqe ?_ _)); refine qqo (cs := #[.int .i64 (rd t288 0), .int .i64 (rd t288 1), .int .i64 (rd t288 2), .int .i64 (rd t288 3), .int .i64 0, .int .i64 0, .int .i64 0, .int .i64 0, .int .i64 0, .int .i64 0]) ?_ 8 _ rfl; (with_reducible repeat (first | refine qqd ?_ _ | refine qqg ?_ | refine qqe ?_ _)); refine qqo (cs := #[.int .i64 (rd t288 0), .int .i64 (rd t288 1), .int .i64 (rd t288 2), .int .i64 (rd t288 3), .int .i64 0, .int .i64 0, .int .i64 0, .int .i64 0, .int .i64 0, .int .i64 0]) ?_ 7 _ rfl; (with_reducible repeat (first | refine qqd ?_ _ | refine qqg ?_ | refine qqe ?_ _)); refine qqo (cs := #[.int .i64 (rd t288 0), .int .i64 (rd t288 1), .int .i64 (rd t288 2), .int .i64 (rd t288 3), .int .i64 0, .int .i64 0, .int .i64 0, .int .i64 0, .int .i64 0, .int .i64 0]) ?_ 6 _ rfl; (with_reducible repeat (first | refine qqd ?_ _ | refine qqg ?_ | refine qqe ?_ _)); refine qqo (cs := #[.int .i64 (rd t288 0), .int .i64 (rd t288 1), .int .i64 (rd t288 2), .int .i64 (rd t288 3), .int .i64 0, .int .i64 0, .int .i64 0, .int .i64 0, .int .i64 0, .int .i64 0]) ?_ 5 _ rfl; (with_reducible repeat (first | refine qqd ?_ _ | refine qqg ?_ | refine qqe ?_ _)); refine qqo (cs := #[.int .i64 (rd t288 0), .int .i64 (rd t288 1), .int .i64 (rd t288 2), .int .i64 (rd t288 3), .int .i64 0, .int .i64 0, .int .i64 0, .int .i64 0, .int .i64 0, .int .i64 0]) ?_ 4 _ rfl; (with_reducible repeat (first | refine qqd ?_ _ | refine qqg ?_ | refine qqe ?_ _)); refine qqo (cs := #[.int .i64 (rd t288 0), .int .i64 (rd t288 1), .int .i64 (rd t288 2), .int .i64 0, .int .i64 0, .int .i64 0, .int .i64 0, .int .i64 0, .int .i64 0, .int .i64 0]) ?_ 3 _ rfl; (with_reducible repeat (first | refine qqd ?_ _ | refine qqg ?_ | refine qqe ?_ _)); refine qqo (cs := #[.int .i64 (rd t288 0), .int .i64 (rd t288 1), .int .i64 0, .int .i64 0, .int .i64 0, .int .i64 0, .int .i64 0, .int .i64 0, .int .i64 0, .int .i64 0]) ?_ 2 _ rfl; (with_reducible repeat (first | refine qqd ?_ _ | refine qqg ?_ | refine qqe ?_ _)); refine qqo (cs := #[.int .i64 (rd t288 0), .int .i64 0, .int .i64 0, .int .i64 0, .int .i64 0, .int .i64 0, .int .i64 0, .int .i64 0, .int .i64 0, .int .i64 0]) ?_ 1 _ rfl; (with_reducible repeat (first | refine qqd ?_ _ | refine qqg ?_ | refine qqe ?_ _)); refine qqo (cs := #[.int .i64 0, .int .i64 0, .int .i64 0, .int .i64 0, .int .i64 0, .int .i64 0, .int .i64 0, .int .i64 0, .int .i64 0, .int .i64 0]) ?_ 0 _ rfl; (with_reducible repeat (first | refine qqd ?_ _ | refine qqg ?_ | refine qqe ?_ _)); exact BK297.out⟩, ⟨by repeat (first | (with_reducible first | exact HB.out | apply qqc | apply qqa | apply qqb | refine qqf ?_ GE284.out | refine qqf ?_ GE297.out) | exact HB.out)⟩⟩
       ·rw [if_neg c29] at H
        have c29b0 : ((rd t288 0) == 2) = false := beq_eq_false_iff_ne.mpr c29
        have c29b1 : ((rd t288 0) != 2) = true := bne_iff_ne.mpr c29
        (first | rw [c29b0] | (simp only [qqy, qqz]; rw [c29b0]) | skip)
        have H' := Aside0.mk H
        clear H
        go_wp2
        go_meet
        case rel => exact ⟨_, (9), (by first | rfl | (simp; done) | (simp [*]; done)), H', ⟨by first | omega | exact Nat.le_refl _⟩, ⟨by (with_reducible repeat (first | refine qqd ?_ _ | refine qqg ?_ | refine qqe ?_ _)); refine qqm ?_ NB284_297.out _; (with_reducible repeat (first | refine qqd ?_ _ | refine qqg ?_ | refine qqe ?_ _)); refine qqm ?_ NB284_297.out _; (with_reducible repeat (first | refine qqd ?_ _ | refine qqg ?_ | refine qqe ?_ _)); refine qqm ?_ NB284_297.out _; (with_reducible repeat (first | refine qqd ?_ _ | refine qqg ?_ | refine qqe ?_ _)); refine qqm ?_ NB284_297.out _; (with_reducible repeat (first | refine qqd ?_ _ | refine qqg ?_ | refine qqe ?_ _)); refine qqm ?_ NB284_297.out _; (with_reducible repeat (first | refine qqd ?_ _ | refine qqg ?_ | refine qqe ?_ _)); refine qqm ?_ NB284_297.out _; (with_reducible repeat (first | refine qqd ?_ _ | refine qqg ?_ | refine qqe ?_ _)); refine qqm ?_ NB284_297.out _; (with_reducible repeat (first | refine qqd ?_ _ | refine qqg ?_ | refine qqe ?_ _)); refine qqm ?_ NB284_297.out _; (with_reducible repeat (first | refine qqd ?_ _ | refine qqg ?_ | refine qqe ?_ _)); refine qqm ?_ NB284_297.out _; (with_reducible repeat (first | refine qqd ?_ _ | refine qqg ?_ | refine qqe ?_ _)); refine qqm ?_ NB284_297.out _; (with_reducible repeat (first | refine qqd ?_ _ | refine qqg ?_ | refine qqe ?_ _)); exact BK284.out⟩, ⟨by (with_reducible repeat (first | refine qqd ?_ _ | refine qqg ?_ | refine qqe ?_ _)); refine qqo (cs := #[.int .i64 (rd t288 0), .int .i64 (rd t288 1), .int .i64 (rd t288 2), .int .i64 (rd t288 3), .int .i64 0, .int .i64 0, .int .i64 0, .int .i64 0, .int .i64 0, .int .i64 0]) ?_ 9 _ rfl; (with_reducible repeat (first | refine qqd ?_ _ | refine qqg ?_ | refine qqe ?_ _)); refine qqo (cs := #[.int .i64 (rd t288 0), .int .i64 (rd t288 1), .int .i64 (rd t288 2), .int .i64 (rd t288 3), .int .i64 0, .int .i64 0, .int .i64 0, .int .i64 0, .int .i64 0, .int .i64 0]) ?_ 8 _ rfl; (with_reducible repeat (first | refine qqd ?_ _ | refine qqg ?_ | refine qqe ?_ _)); refine qqo (cs := #[.int .i64 (rd t288 0), .int .i64 (rd t288 1), .int .i64 (rd t288 2), .int .i64 (rd t288 3), .int .i64 0, .int .i64 0, .int .i64 0, .int .i64 0, .int .i64 0, .int .i64 0]) ?_ 7 _ rfl; (with_reducible repeat (first | refine qqd ?_ _ | refine qqg ?_ | refine qqe ?_ _)); refine qqo (cs := #[.int .i64 (rd t288 0), .int .i64 (rd t288 1), .int .i64 (rd t288 2), .int .i64 (rd t288 3), .int .i64 0, .int .i64 0, .int .i64 0, .int .i64 0, .int .i64 0, .int .i64 0]) ?_ 6 _ rfl; (with_reducible repeat (first | refine qqd ?_ _ | refine qqg ?_ | refine qqe ?_ _)); refine qqo (cs := #[.int .i64 (rd t288 0), .int .i64 (rd t288 1), .int .i64 (rd t288 2), .int .i64 (rd t288 3), .int .i64 0, .int .i64 0, .int .i64 0, .int .i64 0, .int .i64 0, .int .i64 0]) ?_ 5 _ rfl; (with_reducible repeat (first | refine qqd ?_ _ | refine qqg ?_ | refine qqe ?_ _)); refine qqo (cs := #[.int .i64 (rd t288 0), .int .i64 (rd t288 1), .int .i64 (rd t288 2), .int .i64 (rd t288 3), .int .i64 0, .int .i64 0, .int .i64 0, .int .i64 0, .int .i64 0, .int .i64 0]) ?_ 4 _ rfl; (with_reducible repeat (first | refine qqd ?_ _ | refine qqg ?_ | refine qqe ?_ _)); refine qqo (cs := #[.int .i64 (rd t288 0), .int .i64 (rd t288 1), .int .i64 (rd t288 2), .int .i64 0, .int .i64 0, .int .i64 0, .int .i64 0, .int .i64 0, .int .i64 0, .int .i64 0]) ?_ 3 _ rfl; (with_reducible repeat (first | refine qqd ?_ _ | refine qqg ?_ | refine qqe ?_ _)); refine qqo (cs := #[.int .i64 (rd t288 0), .int .i64 (rd t288 1), .int .i64 0, .int .i64 0, .int .i64 0, .int .i64 0, .int .i64 0, .int .i64 0, .int .i64 0, .int .i64 0]) ?_ 2 _ rfl; (with_reducible repeat (first | refine qqd ?_ _ | refine qqg ?_ | refine qqe ?_ _)); refine qqo (cs := #[.int .i64 (rd t288 0), .int .i64 0, .int .i64 0, .int .i64 0, .int .i64 0, .int .i64 0, .int .i64 0, .int .i64 0, .int .i64 0, .int .i64 0]) ?_ 1 _ rfl; (with_reducible repeat (first | refine qqd ?_ _ | refine qqg ?_ | refine qqe ?_ _)); refine qqo (cs := #[.int .i64 0, .int .i64 0, .int .i64 0, .int .i64 0, .int .i64 0, .int .i64 0, .int .i64 0, .int .i64 0, .int .i64 0, .int .i64 0]) ?_ 0 _ rfl; (with_reducible repeat (first | refine qqd ?_ _ | refine qqg ?_ | refine qqe ?_ _)); exact BK297.out⟩, ⟨by repeat (first | (with_reducible first | exact HB.out | apply qqc | apply qqa | apply qqb | refine qqf ?_ GE284.out | refine qqf ?_ GE297.out) | exact HB.out)⟩⟩
      case rest =>
       clear HC8
       try clear c2
       try clear p2
       try clear q2
       try clear hx2
       try clear qi2
       try clear c3
       try clear c3b0
       try clear c3b1
       try clear c4
       try clear c4b0
       try clear c4b1
       try clear c5
       try clear c5b0
       try clear c5b1
       try clear c6
       try clear c6b0
       try clear c6b1
       try clear c7
       try clear c7b0
       try clear c7b1
       try clear c27
       try clear c28
       try clear c29
       try clear c29b0
       try clear c29b1
       try clear p29
       try clear q29
       try clear hx29
       try clear qi29
       try clear hcz28_0
       try clear hcz28_1
       try clear hcz28_2
       try clear hcz28_3
       try clear hcz28_4
       try clear hcz28_5
       try clear hcz28_6
       try clear hcz28_7
       try clear hcz28_8
       try clear hcz28_9
       try clear hfz28_0
       try clear hfz28_1
       try clear hfz28_2
       try clear hfz28_3
       try clear hfz28_4
       try clear hfz28_5
       try clear hfz28_6
       try clear hfz28_7
       try clear hfz28_8
       try clear hfz28_9
       try clear hx293_0
       try clear hx294_0
       try clear hx295_0
       try clear hx296_0
       try clear p293
       try clear p294
       try clear p295
       try clear p296
       try clear q293
       try clear q294
       try clear q295
       try clear q296
       obtain ⟨kq, x8_7, rfl, HA, HJ7, BK284, BK297, HB⟩ := hcut
       cases kq with
       | zero => exact absurd HA.out (by simp [msg_Get.j0])
       | succ kj7 =>
        have H := HA.out
        clear HA
        simp only [msg_Get.j0] at H
        by_cases c30 : (l0.length : Int) < x8_7
        ·rw [if_pos c30] at H
         have c30b0 : decide ((l0.length : Int) < x8_7) = true := decide_eq_true c30
         clear c30
         simp only [Option.some.injEq, Prod.mk.injEq] at H
         obtain ⟨rfl, rfl, rfl, rfl, rfl, rfl, rfl, rfl, rfl, rfl, rfl⟩ := H
         have hnb31 := NB284_297.out
         have hnc31 := NB297_284.out
         obtain ⟨hcz32_0, hcz32_1, hcz32_2, hcz32_3, hcz32_4, hcz32_5, hcz32_6, hcz32_7, hcz32_8, hcz32_9⟩ := bcells10 BK284.out
         obtain ⟨hfz32_0, hfz32_1, hfz32_2, hfz32_3, hfz32_4, hfz32_5, hfz32_6, hfz32_7, hfz32_8, hfz32_9⟩ := qzd BK284.out
         go_wp2
         refine bodyPost_ret (results_ct rfl _ _ gb284 29 #[.int .i64 0, .int .i64 0, .int .i64 0, .int .i64 0, .int .i64 0, .int .i64 0, .int .i64 0, .int .i64 0, .int .i64 0, .int .i64 0] (0, 0) _ rfl (by (with_reducible repeat (first | refine qqd ?_ _ | refine qqg ?_ | refine qqe ?_ _)); refine qqo (cs := #[.int .i64 0, .int .i64 0, .int .i64 0, .int .i64 0, .int .i64 0, .int .i64 0, .int .i64 0, .int .i64 0, .int .i64 0, .int .i64 0]) ?_ 9 _ rfl; (with_reducible repeat (first | refine qqd ?_ _ | refine qqg ?_ | refine qqe ?_ _)); refine qqo (cs := #[.int .i64 0, .int .i64 0, .int .i64 0, .int .i64 0, .int .i64 0, .int .i64 0, .int .i64 0, .int .i64 0, .int .i64 0, .int .i64 0]) ?_ 8 _ rfl; (with_reducible repeat (first | refine qqd ?_ _ | refine qqg ?_ | refine qqe ?_ _)); refine qqo (cs := #[.int .i64 0, .int .i64 0, .int .i64 0, .int .i64 0, .int .i64 0, .int .i64 0, .int .i64 0, .int .i64 0, .int .i64 0, .int .i64 0]) ?_ 7 _ rfl; (with_reducible repeat (first | refine qqd ?_ _ | refine qqg ?_ | refine qqe ?_ _)); refine qqo (cs := #[.int .i64 0, .int .i64 0, .int .i64 0, .int .i64 0, .int .i64 0, .int .i64 0, .int .i64 0, .int .i64 0, .int .i64 0, .int .i64 0]) ?_ 6 _ rfl; (with_reducible repeat (first | refine qqd ?_ _ | refine qqg ?_ | refine qqe ?_ _)); refine qqo (cs := #[.int .i64 0, .int .i64 0, .int .i64 0, .int .i64 0, .int .i64 0, .int .i64 0, .int .i64 0, .int .i64 0, .int .i64 0, .int .i64 0]) ?_ 5 _ rfl; (with_reducible repeat (first | refine qqd ?_ _ | refine qqg ?_ | refine qqe ?_ _)); refine qqo (cs := #[.int .i64 0, .int .i64 0, .int .i64 0, .int .i64 0, .int .i64 0, .int .i64 0, .int .i64 0, .int .i64 0, .int .i64 0, .int .i64 0]) ?_ 4 _ rfl; (with_reducible repeat (first | refine qqd ?_ _ | refine qqg ?_ | refine qqe ?_ _)); refine qqo (cs := #[.int .i64 0, .int .i64 0, .int .i64 0, .int .i64 0, .int .i64 0, .int .i64 0, .int .i64 0, .int .i64 0, .int .i64 0, .int .i64 0]) ?_ 3 _ rfl; (with_reducible repeat (first | refine qqd ?_ _ | refine qqg ?_ | refine qqe ?_ _)); refine qqo (cs := #[.int .i64 0, .int .i64 0, .int .i64 0, .int .i64 0, .int .i64 0, .int .i64 0, .int .i64 0, .int .i64 0, .int .i64 0, .int .i64 0]) ?_ 2 _ rfl; (with_reducible repeat (first | refine qqd ?_ _ | refine qqg ?_ | refine qqe ?_ _)); refine qqo (cs := #[.int .i64 0, .int .i64 0, .int .i64 0, .int .i64 0, .int .i64 0, .int .i64 0, .int .i64 0, .int .i64 0, .int .i64 0, .int .i64 0]) ?_ 1 _ rfl; (with_reducible repeat (first | refine qqd ?_ _ | refine qqg ?_ | refine qqe ?_ _)); refine qqo (cs := #[.int .i64 0, .int .i64 0, .int .i64 0, .int .i64 0, .int .i64 0, .int .i64 0, .int .i64 0, .int .i64 0, .int .i64 0, .int .i64 0]) ?_ 0 _ rfl; (with_reducible repeat (first | refine qqd ?_ _ | refine qqg ?_ | refine qqe ?_ _)); exact BK284.out) Tryd.underlying29 rfl (by kernel_rfl)) rfl ?_
         exact ⟨by first | rfl | (simp [qqq, qqp] <;> rfl) | (simp [*, qqq, qqp] <;> rfl), by repeat (first | (with_reducible first | exact HB.out | apply qqc | apply qqa | apply qqb | refine qqf ?_ GE284.out | refine qqf ?_ GE297.out) | exact HB.out)⟩
        ·rw [if_neg c30] at H
         have c30b0 : decide ((l0.length : Int) < x8_7) = false := decide_eq_false c30
         clear c30
         by_cases c33 : (l0.length : Int) > x8_7
         ·rw [if_pos c33] at H
          have c33b0 : decide (x8_7 < (l0.length : Int)) = true := decide_eq_true c33
          clear c33
          simp only [Option.some.injEq, Prod.mk.injEq] at H
          obtain ⟨rfl, rfl, rfl, rfl, rfl, rfl, rfl, rfl, rfl, rfl, rfl⟩ := H
          have hnb34 := NB284_297.out
          have hnc34 := NB297_284.out
          obtain ⟨hcz35_0, hcz35_1, hcz35_2, hcz35_3, hcz35_4, hcz35_5, hcz35_6, hcz35_7, hcz35_8, hcz35_9⟩ := bcells10 BK284.out
          obtain ⟨hfz35_0, hfz35_1, hfz35_2, hfz35_3, hfz35_4, hfz35_5, hfz35_6, hfz35_7, hfz35_8, hfz35_9⟩ := qzd BK284.out
          go_wp2
          refine bodyPost_ret (results_ct rfl _ _ gb284 29 #[.int .i64 0, .int .i64 0, .int .i64 0, .int .i64 0, .int .i64 0, .int .i64 0, .int .i64 0, .int .i64 0, .int .i64 0, .int .i64 0] (0, 0) _ rfl (by (with_reducible repeat (first | refine qqd ?_ _ | refine qqg ?_ | refine qqe ?_ _)); refine qqo (cs := #[.int .i64 0, .int .i64 0, .int .i64 0, .int .i64 0, .int .i64 0, .int .i64 0, .int .i64 0, .int .i64 0, .int .i64 0, .int .i64 0]) ?_ 9 _ rfl; (with_reducible repeat (first | refine qqd ?_ _ | refine qqg ?_ | refine qqe ?_ _)); refine qqo (cs := #[.int .i64 0, .int .i64 0, .int .i64 0, .int .i64 0, .int .i64 0, .int .i64 0, .int .i64 0, .int .i64 0, .int .i64 0, .int .i64 0]) ?_ 8 _ rfl; (with_reducible repeat (first | refine qqd ?_ _ | refine qqg ?_ | refine qqe ?_ _)); refine qqo (cs := #[.int .i64 0, .int .i64 0, .int .i64 0, .int .i64 0, .int .i64 0, .int .i64 0, .int .i64 0, .int .i64 0, .int .i64 0, .int .i64 0]) ?_ 7 _ rfl; (with_reducible repeat (first | refine qqd ?_ _ | refine qqg ?_ | refine qqe ?_ _)); refine qqo (cs := #[.int .i64 0, .int .i64 0, .int .i64 0, .int .i64 0, .int .i64 0, .int .i64 0, .int .i64 0, .int .i64 0, .int .i64 0, .int .i64 0]) ?_ 6 _ rfl; (with_reducible repeat (first | refine qqd ?_ _ | refine qqg ?_ | refine qqe ?_ _)); refine qqo (cs := #[.int .i64 0, .int .i64 0, .int .i64 0, .int .i64 0, .int .i64 0, .int .i64 0, .int .i64 0, .int .i64 0, .int .i64 0, .int .i64 0]) ?_ 5 _ rfl; (with_reducible repeat (first | refine qqd ?_ _ | refine qqg ?_ | refine qqe ?_ _)); refine qqo (cs := #[.int .i64 0, .int .i64 0, .int .i64 0, .int .i64 0, .int .i64 0, .int .i64 0, .int .i64 0, .int .i64 0, .int .i64 0, .int .i64 0]) ?_ 4 _ rfl; (with_reducible repeat (first | refine qqd ?_ _ | refine qqg ?_ | refine qqe ?_ _)); refine qqo (cs := #[.int .i64 0, .int .i64 0, .int .i64 0, .int .i64 0, .int .i64 0, .int .i64 0, .int .i64 0, .int .i64 0, .int .i64 0, .int .i64 0]) ?_ 3 _ rfl; (with_reducible repeat (first | refine qqd ?_ _ | refine qqg ?_ | refine qqe ?_ _)); refine qqo (cs := #[.int .i64 0, .int .i64 0, .int .i64 0, .int .i64 0, .int .i64 0, .int .i64 0, .int .i64 0, .int .i64 0, .int .i64 0, .int .i64 0]) ?_ 2 _ rfl; (with_reducible repeat (first | refine qqd ?_ _ | refine qqg ?_ | refine qqe ?_ _)); refine qqo (cs := #[.int .i64 0, .int .i64 0, .int .i64 0, .int .i64 0, .int .i64 0, .int .i64 0, .int .i64 0, .int .i64 0, .int .i64 0, .int .i64 0]) ?_ 1 _ rfl; (with_reducible repeat (first | refine qqd ?_ _ | refine qqg ?_ | refine qqe ?_ _)); refine qqo (cs := #[.int .i64 0, .int .i64 0, .int .i64 0, .int .i64 0, .int .i64 0, .int .i64 0, .int .i64 0, .int .i64 0, .int .i64 0, .int .i64 0]) ?_ 0 _ rfl; (with_reducible repeat (first | refine qqd ?_ _ | refine qqg ?_ | refine qqe ?_ _)); exact BK284.out) Tryd.underlying29 rfl (by kernel_rfl)) rfl ?_
          exact ⟨by first | rfl | (simp [qqq, qqp] <;> rfl) | (simp [*, qqq, qqp] <;> rfl), by repeat (first | (with_reducible first | exact HB.out | apply qqc | apply qqa | apply qqb | refine qqf ?_ GE284.out | refine qqf ?_ GE297.out) | exact HB.out)⟩
         ·rw [if_neg c33] at H
          have c33b0 : decide (x8_7 < (l0.length : Int)) = false := decide_eq_false c33
          clear c33
          by_cases c36 : x8_7 = 18
          ·rw [if_pos c36] at H
           have c36b0 : (x8_7 == 18) = true := beq_iff_eq.mpr c36
           have c36b1 : (x8_7 != 18) = false := bne_eq_false_iff_eq.mpr c36
           clear c36
           by_cases c37 : 0 ≤ t291
           ·rw [if_pos c37] at H
            have c37b0 := eq_true c37
            have c37b1 : decide (0 ≤ t291) = true := decide_eq_true c37
            clear c37
            by_cases c38 : t291 ≤ (l0.length : Int)
            ·rw [if_pos c38] at H
             have c38b0 := eq_true c38
             have c38b1 : decide (t291 ≤ (l0.length : Int)) = true := decide_eq_true c38
             clear c38
             replace H := Option.bind_eq_some_iff.mp H
             obtain ⟨⟨t299, t300, t301, t302, t303, t304, t305⟩, A390, H⟩ := H
             replace H : (if t305 = 0 then ((msg_May.f (rd t288 0) (rd t288 1) (rd t288 2) (rd t288 3) t299 t300 t301 t302 t303 t304).bind fun t306 => (if t306 = true then (some ((rd t288 0), (rd t288 1), (rd t288 2), (rd t288 3), t299, t300, t301, t302, t303, t304, 0)) else (some (0, 0, 0, 0, 0, 0, 0, 0, 0, 0, 2)))) else (some (0, 0, 0, 0, 0, 0, 0, 0, 0, 0, 2))) = some (r1, r2, r3, r4, r5, r6, r7, r8, r9, r10, r11) := H
             have A39 := Aside0.mk A390
             clear A390
             by_cases c40 : t305 = 0
             ·rw [if_pos c40] at H
              have c40b0 : (t305 == 0) = true := beq_iff_eq.mpr c40
              have c40b1 : (t305 != 0) = false := bne_eq_false_iff_eq.mpr c40
              clear c40
              replace H := Option.bind_eq_some_iff.mp H
              obtain ⟨t306, A410, H⟩ := H
              replace H : (if t306 = true then (some ((rd t288 0), (rd t288 1), (rd t288 2), (rd t288 3), t299, t300, t301, t302, t303, t304, 0)) else (some (0, 0, 0, 0, 0, 0, 0, 0, 0, 0, 2))) = some (r1, r2, r3, r4, r5, r6, r7, r8, r9, r10, r11) := H
              have A41 := Aside0.mk A410
              clear A410
              by_cases c42 : t306 = true
              ·subst c42
               have H1 : (some ((rd t288 0), (rd t288 1), (rd t288 2), (rd t288 3), t299, t300, t301, t302, t303, t304, 0)) = some (r1, r2, r3, r4, r5, r6, r7, r8, r9, r10, r11) := by rw [if_pos rfl] at H; exact H
               clear H
               have H := H1
               clear H1
               simp only [Option.some.injEq, Prod.mk.injEq] at H
               obtain ⟨rfl, rfl, rfl, rfl, rfl, rfl, rfl, rfl, rfl, rfl, rfl⟩ := H
               obtain ⟨i043, hi043, _, hsz43, _⟩ := info_parts info5
               obtain ⟨A43, hcut43, hA43, hC43⟩ := print_drop_of (P := Tryd.prog) (Value.int .u8) 0 31 5 .i64 Tryd.underlying31 hi043 hsz43 A0 c0 l0 t291 (of_decide_eq_true (by first | (with_reducible assumption) | assumption)) (of_decide_eq_true (by first | (with_reducible assumption) | assumption)) HC0.out
               have HR298 := Aside0.mk (Kd.C_of_reads (h1 := fun _ => rfl) (hA43 _ (Kd.reads_of_C HR0.out)))
               have HC298 := Aside0.mk hC43
               clear hA43 hC43 hi043 hsz43
               go_wp2_with (first | ((with_reducible refine qza (f := 39) rfl ?_); refine goesL_ (some 55) rfl rfl Tryd.func39 (by kernel_rfl) rfl #[.slice A43 (l0.drop (t291 : Int).toNat).length (c0 - t291.toNat)] rfl (by (try simp only [List.map_toArray, List.map_cons, List.map_nil]); first | done | (rw [show (l0.drop (t291 : Int).toNat).length = (l0.length - t291.toNat) from List.length_drop] <;> rfl) | rfl | (simp only [List.length_drop, List.length_take]; rfl)) ?_; (with_reducible refine (rule_Get.calls kj7 _ _ (l0.drop (t291 : Int).toNat) t299 t300 t301 t302 t303 t304 t305 _ ?side1 ?side2 A39.out).mono ?_); (case side1 => repeat (first | exact (Kd.C_below HR298.out HB.out) | (with_reducible refine Kd.C_alloc ?_ _) | (with_reducible refine Kd.C_drewN ?_ _) | (with_reducible refine Kd.C_drew ?_))); (case side2 => exact HC298.out); rintro e w44 ⟨rfl, hb⟩; refine ⟨_, rfl, ?_⟩; have n0_ := Aside0.mk (qqk (g := gb284) (o := .cells #[.int .i64 0, .int .i64 0, .int .i64 0, .int .i64 0, .int .i64 0, .int .i64 0, .int .i64 0, .int .i64 0, .int .i64 0, .int .i64 0] 29 (0, 0)) (by (with_reducible repeat (first | refine qqd ?_ _ | refine qqg ?_ | refine qqe ?_ _)); exact BK284.out) hb); have n1_ := Aside0.mk (qqk (g := gb297) (o := .cells #[.int .i64 (rd t288 0), .int .i64 (rd t288 1), .int .i64 (rd t288 2), .int .i64 (rd t288 3), .int .i64 0, .int .i64 0, .int .i64 0, .int .i64 0, .int .i64 0, .int .i64 0] 29 (0, 0)) (by (with_reducible repeat (first | refine qqd ?_ _ | refine qqg ?_ | refine qqe ?_ _)); exact BK297.out) hb); have n2_ := Aside0.mk (qqi (by repeat (first | (with_reducible first | exact HB.out | apply qqc | apply qqa | apply qqb | refine qqf ?_ GE284.out | refine qqf ?_ GE297.out) | exact HB.out)) hb); clear BK284; clear BK297; clear HB; have BK284 := n0_; have BK297 := n1_; have HB := n2_; clear n0_ n1_ n2_; (try clear hb); (try clear hb2); (try clear hk); (try clear hi); have hnb45 := NB297_284.out; have hnc45 := NB284_297.out; obtain ⟨hcz46_0, hcz46_1, hcz46_2, hcz46_3, hcz46_4, hcz46_5, hcz46_6, hcz46_7, hcz46_8, hcz46_9⟩ := bcells10 BK297.out; obtain ⟨hfz46_0, hfz46_1, hfz46_2, hfz46_3, hfz46_4, hfz46_5, hfz46_6, hfz46_7, hfz46_8, hfz46_9⟩ := qzd BK297.out) | ((with_reducible refine qza (f := 15) rfl ?_); refine goesL_ (some 63) rfl rfl Tryd.func15 (by kernel_rfl) rfl #[.agg #[.int .i64 (rd t288 0), .int .i64 (rd t288 1), .int .i64 (rd t288 2), .int .i64 (rd t288 3), .int .i64 t299, .int .i64 t300, .int .i64 t301, .int .i64 t302, .int .i64 t303, .int .i64 t304]] rfl (by (try simp only [List.map_toArray, List.map_cons, List.map_nil]); first | done | rfl | (simp only [List.length_drop, List.length_take]; rfl)) ?_; (with_reducible refine (msg_May.calls (rd t288 0) (rd t288 1) (rd t288 2) (rd t288 3) t299 t300 t301 t302 t303 t304 true _ ?sideG_ A41.out).mono ?_); (case sideG_ => exact hG.below rfl (by repeat (first | (with_reducible first | exact HB.out | apply qqc | apply qqa | apply qqb | refine qqf ?_ GE284.out | refine qqf ?_ GE297.out) | exact HB.out))); rintro e w47 ⟨rfl, hb⟩; refine ⟨_, rfl, ?_⟩; have n0_ := Aside0.mk (qqk (g := gb284) (o := .cells #[.int .i64 0, .int .i64 0, .int .i64 0, .int .i64 0, .int .i64 0, .int .i64 0, .int .i64 0, .int .i64 0, .int .i64 0, .int .i64 0] 29 (0, 0)) (by (with_reducible repeat (first | refine qqd ?_ _ | refine qqg ?_ | refine qqe ?_ _)); refine qqm ?_ NB284_297.out _; (with_reducible repeat (first | refine qqd ?_ _ | refine qqg ?_ | refine qqe ?_ _)); refine qqm ?_ NB284_297.out _; (with_reducible repeat (first | refine qqd ?_ _ | refine qqg ?_ | refine qqe ?_ _)); refine qqm ?_ NB284_297.out _; (with_reducible repeat (first | refine qqd ?_ _ | refine qqg ?_ | refine qqe ?_ _)); refine qqm ?_ NB284_297.out _; (with_reducible repeat (first | refine qqd ?_ _ | refine qqg ?_ | refine qqe ?_ _)); refine qqm ?_ NB284_297.out _; (with_reducible repeat (first | refine qqd ?_ _ | refine qqg ?_ | refine qqe ?_ _)); refine qqm ?_ NB284_297.out _; (with_reducible repeat (first | refine qqd ?_ _ | refine qqg ?_ | refine qqe ?_ _)); exact BK284.out) hb); have n1_ := Aside0.mk (qqk (g := gb297) (o := .cells #[.int .i64 (rd t288 0), .int .i64 (rd t288 1), .int .i64 (rd t288 2), .int .i64 (rd t288 3), .int .i64 t299, .int .i64 t300, .int .i64 t301, .int .i64 t302, .int .i64 t303, .int .i64 t304] 29 (0, 0)) (by (with_reducible repeat (first | refine qqd ?_ _ | refine qqg ?_ | refine qqe ?_ _)); refine qqo (cs := #[.int .i64 (rd t288 0), .int .i64 (rd t288 1), .int .i64 (rd t288 2), .int .i64 (rd t288 3), .int .i64 t299, .int .i64 t300, .int .i64 t301, .int .i64 t302, .int .i64 t303, .int .i64 0]) ?_ 9 _ rfl; (with_reducible repeat (first | refine qqd ?_ _ | refine qqg ?_ | refine qqe ?_ _)); refine qqo (cs := #[.int .i64 (rd t288 0), .int .i64 (rd t288 1), .int .i64 (rd t288 2), .int .i64 (rd t288 3), .int .i64 t299, .int .i64 t300, .int .i64 t301, .int .i64 t302, .int .i64 0, .int .i64 0]) ?_ 8 _ rfl; (with_reducible repeat (first | refine qqd ?_ _ | refine qqg ?_ | refine qqe ?_ _)); refine qqo (cs := #[.int .i64 (rd t288 0), .int .i64 (rd t288 1), .int .i64 (rd t288 2), .int .i64 (rd t288 3), .int .i64 t299, .int .i64 t300, .int .i64 t301, .int .i64 0, .int .i64 0, .int .i64 0]) ?_ 7 _ rfl; (with_reducible repeat (first | refine qqd ?_ _ | refine qqg ?_ | refine qqe ?_ _)); refine qqo (cs := #[.int .i64 (rd t288 0), .int .i64 (rd t288 1), .int .i64 (rd t288 2), .int .i64 (rd t288 3), .int .i64 t299, .int .i64 t300, .int .i64 0, .int .i64 0, .int .i64 0, .int .i64 0]) ?_ 6 _ rfl; (with_reducible repeat (first | refine qqd ?_ _ | refine qqg ?_ | refine qqe ?_ _)); refine qqo (cs := #[.int .i64 (rd t288 0), .int .i64 (rd t288 1), .int .i64 (rd t288 2), .int .i64 (rd t288 3), .int .i64 t299, .int .i64 0, .int .i64 0, .int .i64 0, .int .i64 0, .int .i64 0]) ?_ 5 _ rfl; (with_reducible repeat (first | refine qqd ?_ _ | refine qqg ?_ | refine qqe ?_ _)); refine qqo (cs := #[.int .i64 (rd t288 0), .int .i64 (rd t288 1), .int .i64 (rd t288 2), .int .i64 (rd t288 3), .int .i64 0, .int .i64 0, .int .i64 0, .int .i64 0, .int .i64 0, .int .i64 0]) ?_ 4 _ rfl; (with_reducible repeat (first | refine qqd ?_ _ | refine qqg ?_ | refine qqe ?_ _)); exact BK297.out) hb); have n2_ := Aside0.mk (qqi (by repeat (first | (with_reducible first | exact HB.out | apply qqc | apply qqa | apply qqb | refine qqf ?_ GE284.out | refine qqf ?_ GE297.out) | exact HB.out)) hb); clear BK284; clear BK297; clear HB; have BK284 := n0_; have BK297 := n1_; have HB := n2_; clear n0_ n1_ n2_; (try clear hb); (try clear hb2); (try clear hk); (try clear hi); obtain ⟨hcz48_0, hcz48_1, hcz48_2, hcz48_3, hcz48_4, hcz48_5, hcz48_6, hcz48_7, hcz48_8, hcz48_9⟩ := bcells10 BK297.out; obtain ⟨hfz48_0, hfz48_1, hfz48_2, hfz48_3, hfz48_4, hfz48_5, hfz48_6, hfz48_7, hfz48_8, hfz48_9⟩ := qzd BK297.out; obtain ⟨hcz49_0, hcz49_1, hcz49_2, hcz49_3, hcz49_4, hcz49_5, hcz49_6, hcz49_7, hcz49_8, hcz49_9⟩ := bcells10 BK284.out; obtain ⟨hfz49_0, hfz49_1, hfz49_2, hfz49_3, hfz49_4, hfz49_5, hfz49_6, hfz49_7, hfz49_8, hfz49_9⟩ := qzd BK284.out))
               refine bodyPost_ret (results_ct rfl _ _ gb284 29 #[.int .i64 (rd t288 0), .int .i64 (rd t288 1), .int .i64 (rd t288 2), .int .i64 (rd t288 3), .int .i64 t299, .int .i64 t300, .int .i64 t301, .int .i64 t302, .int .i64 t303, .int .i64 t304] (0, 0) _ rfl (by (with_reducible repeat (first | refine qqd ?_ _ | refine qqg ?_ | refine qqe ?_ _)); refine qqo (cs := #[.int .i64 (rd t288 0), .int .i64 (rd t288 1), .int .i64 (rd t288 2), .int .i64 (rd t288 3), .int .i64 t299, .int .i64 t300, .int .i64 t301, .int .i64 t302, .int .i64 t303, .int .i64 0]) ?_ 9 _ rfl; (with_reducible repeat (first | refine qqd ?_ _ | refine qqg ?_ | refine qqe ?_ _)); refine qqo (cs := #[.int .i64 (rd t288 0), .int .i64 (rd t288 1), .int .i64 (rd t288 2), .int .i64 (rd t288 3), .int .i64 t299, .int .i64 t300, .int .i64 t301, .int .i64 t302, .int .i64 0, .int .i64 0]) ?_ 8 _ rfl; (with_reducible repeat (first | refine qqd ?_ _ | refine qqg ?_ | refine qqe ?_ _)); refine qqo (cs := #[.int .i64 (rd t288 0), .int .i64 (rd t288 1), .int .i64 (rd t288 2), .int .i64 (rd t288 3), .int .i64 t299, .int .i64 t300, .int .i64 t301, .int .i64 0, .int .i64 0, .int .i64 0]) ?_ 7 _ rfl; (with_reducible repeat (first | refine qqd ?_ _ | refine qqg ?_ | refine qqe ?_ _)); refine qqo (cs := #[.int .i64 (rd t288 0), .int .i64 (rd t288 1), .int .i64 (rd t288 2), .int .i64 (rd t288 3), .int .i64 t299, .int .i64 t300, .int .i64 0, .int .i64 0, .int .i64 0, .int .i64 0]) ?_ 6 _ rfl; (with_reducible repeat (first | refine qqd ?_ _ | refine qqg ?_ | refine qqe ?_ _)); refine qqo (cs := #[.int .i64 (rd t288 0), .int .i64 (rd t288 1), .int .i64 (rd t288 2), .int .i64 (rd t288 3), .int .i64 t299, .int .i64 0, .int .i64 0, .int .i64 0, .int .i64 0, .int .i64 0]) ?_ 5 _ rfl; (with_reducible repeat (first | refine qqd ?_ _ | refine qqg ?_ | refine qqe ?_ _)); refine qqo (cs := #[.int .i64 (rd t288 0), .int .i64 (rd t288 1), .int .i64 (rd t288 2), .int .i64 (rd t288 3), .int .i64 0, .int .i64 0, .int .i64 0, .int .i64 0, .int .i64 0, .int .i64 0]) ?_ 4 _ rfl; (with_reducible repeat (first | refine qqd ?_ _ | refine qqg ?_ | refine qqe ?_ _)); refine qqo (cs := #[.int .i64 (rd t288 0), .int .i64 (rd t288 1), .int .i64 (rd t288 2), .int .i64 0, .int .i64 0, .int .i64 0, .int .i64 0, .int .i64 0, .int .i64 0, .int .i64 0]) ?_ 3 _ rfl; (with_reducible repeat (first | refine qqd ?_ _ | refine qqg ?_ | refine qqe ?_ _)); refine qqo (cs := #[.int .i64 (rd t288 0), .int .i64 (rd t288 1), .int .i64 0, .int .i64 0, .int .i64 0, .int .i64 0, .int .i64 0, .int .i64 0, .int .i64 0, .int .i64 0]) ?_ 2 _ rfl; (with_reducible repeat (first | refine qqd ?_ _ | refine qqg ?_ | refine qqe ?_ _)); refine qqo (cs := #[.int .i64 (rd t288 0), .int .i64 0, .int .i64 0, .int .i64 0, .int .i64 0, .int .i64 0, .int .i64 0, .int .i64 0, .int .i64 0, .int .i64 0]) ?_ 1 _ rfl; (with_reducible repeat (first | refine qqd ?_ _ | refine qqg ?_ | refine qqe ?_ _)); refine qqo (cs := #[.int .i64 0, .int .i64 0, .int .i64 0, .int .i64 0, .int .i64 0, .int .i64 0, .int .i64 0, .int .i64 0, .int .i64 0, .int .i64 0]) ?_ 0 _ rfl; (with_reducible repeat (first | refine qqd ?_ _ | refine qqg ?_ | refine qqe ?_ _)); exact BK284.out) Tryd.underlying29 rfl (by kernel_rfl)) rfl ?_
               exact ⟨by first | rfl | (simp [qqq, qqp] <;> rfl) | (simp [*, qqq, qqp] <;> rfl), by repeat (first | (with_reducible first | exact HB.out | apply qqc | apply qqa | apply qqb | refine qqf ?_ GE284.out | refine qqf ?_ GE297.out) | exact HB.out)⟩
              ·replace c42 := Bool.eq_false_iff.mpr c42
               subst c42
               have H1 : (some (0, 0, 0, 0, 0, 0, 0, 0, 0, 0, 2)) = some (r1, r2, r3, r4, r5, r6, r7, r8, r9, r10, r11) := by rw [if_neg (show ¬ (false = true) by decide)] at H; exact H
               clear H
               have H := H1
               clear H1
               simp only [Option.some.injEq, Prod.mk.injEq] at H
               obtain ⟨rfl, rfl, rfl, rfl, rfl, rfl, rfl, rfl, rfl, rfl, rfl⟩ := H
               obtain ⟨i050, hi050, _, hsz50, _⟩ := info_parts info5
               obtain ⟨A50, hcut50, hA50, hC50⟩ := print_drop_of (P := Tryd.prog) (Value.int .u8) 0 31 5 .i64 Tryd.underlying31 hi050 hsz50 A0 c0 l0 t291 (of_decide_eq_true (by first | (with_reducible assumption) | assumption)) (of_decide_eq_true (by first | (with_reducible assumption) | assumption)) HC0.out
               have HR298 := Aside0.mk (Kd.C_of_reads (h1 := fun _ => rfl) (hA50 _ (Kd.reads_of_C HR0.out)))
               have HC298 := Aside0.mk hC50
               clear hA50 hC50 hi050 hsz50
               go_wp2_with (first | ((with_reducible refine qza (f := 39) rfl ?_); refine goesL_ (some 55) rfl rfl Tryd.func39 (by kernel_rfl) rfl #[.slice A50 (l0.drop (t291 : Int).toNat).length (c0 - t291.toNat)] rfl (by (try simp only [List.map_toArray, List.map_cons, List.map_nil]); first | done | (rw [show (l0.drop (t291 : Int).toNat).length = (l0.length - t291.toNat) from List.length_drop] <;> rfl) | rfl | (simp only [List.length_drop, List.length_take]; rfl)) ?_; (with_reducible refine (rule_Get.calls kj7 _ _ (l0.drop (t291 : Int).toNat) t299 t300 t301 t302 t303 t304 t305 _ ?side1 ?side2 A39.out).mono ?_); (case side1 => repeat (first | exact (Kd.C_below HR298.out HB.out) | (with_reducible refine Kd.C_alloc ?_ _) | (with_reducible refine Kd.C_drewN ?_ _) | (with_reducible refine Kd.C_drew ?_))); (case side2 => exact HC298.out); rintro e w51 ⟨rfl, hb⟩; refine ⟨_, rfl, ?_⟩; have n0_ := Aside0.mk (qqk (g := gb284) (o := .cells #[.int .i64 0, .int .i64 0, .int .i64 0, .int .i64 0, .int .i64 0, .int .i64 0, .int .i64 0, .int .i64 0, .int .i64 0, .int .i64 0] 29 (0, 0)) (by (with_reducible repeat (first | refine qqd ?_ _ | refine qqg ?_ | refine qqe ?_ _)); exact BK284.out) hb); have n1_ := Aside0.mk (qqk (g := gb297) (o := .cells #[.int .i64 (rd t288 0), .int .i64 (rd t288 1), .int .i64 (rd t288 2), .int .i64 (rd t288 3), .int .i64 0, .int .i64 0, .int .i64 0, .int .i64 0, .int .i64 0, .int .i64 0] 29 (0, 0)) (by (with_reducible repeat (first | refine qqd ?_ _ | refine qqg ?_ | refine qqe ?_ _)); exact BK297.out) hb); have n2_ := Aside0.mk (qqi (by repeat (first | (with_reducible first | exact HB.out | apply qqc | apply qqa | apply qqb | refine qqf ?_ GE284.out | refine qqf ?_ GE297.out) | exact HB.out)) hb); clear BK284; clear BK297; clear HB; have BK284 := n0_; have BK297 := n1_; have HB := n2_; clear n0_ n1_ n2_; (try clear hb); (try clear hb2); (try clear hk); (try clear hi); have hnb52 := NB297_284.out; have hnc52 := NB284_297.out; obtain ⟨hcz53_0, hcz53_1, hcz53_2, hcz53_3, hcz53_4, hcz53_5, hcz53_6, hcz53_7, hcz53_8, hcz53_9⟩ := bcells10 BK297.out; obtain ⟨hfz53_0, hfz53_1, hfz53_2, hfz53_3, hfz53_4, hfz53_5, hfz53_6, hfz53_7, hfz53_8, hfz53_9⟩ := qzd BK297.out) | ((with_reducible refine qza (f := 15) rfl ?_); refine goesL_ (some 63) rfl rfl Tryd.func15 (by kernel_rfl) rfl #[.agg #[.int .i64 (rd t288 0), .int .i64 (rd t288 1), .int .i64 (rd t288 2), .int .i64 (rd t288 3), .int .i64 t299, .int .i64 t300, .int .i64 t301, .int .i64 t302, .int .i64 t303, .int .i64 t304]] rfl (by (try simp only [List.map_toArray, List.map_cons, List.map_nil]); first | done | rfl | (simp only [List.length_drop, List.length_take]; rfl)) ?_; (with_reducible refine (msg_May.calls (rd t288 0) (rd t288 1) (rd t288 2) (rd t288 3) t299 t300 t301 t302 t303 t304 false _ ?sideG_ A41.out).mono ?_); (case sideG_ => exact hG.below rfl (by repeat (first | (with_reducible first | exact HB.out | apply qqc | apply qqa | apply qqb | refine qqf ?_ GE284.out | refine qqf ?_ GE297.out) | exact HB.out))); rintro e w54 ⟨rfl, hb⟩; refine ⟨_, rfl, ?_⟩; have n0_ := Aside0.mk (qqk (g := gb284) (o := .cells #[.int .i64 0, .int .i64 0, .int .i64 0, .int .i64 0, .int .i64 0, .int .i64 0, .int .i64 0, .int .i64 0, .int .i64 0, .int .i64 0] 29 (0, 0)) (by (with_reducible repeat (first | refine qqd ?_ _ | refine qqg ?_ | refine qqe ?_ _)); refine qqm ?_ NB284_297.out _; (with_reducible repeat (first | refine qqd ?_ _ | refine qqg ?_ | refine qqe ?_ _)); refine qqm ?_ NB284_297.out _; (with_reducible repeat (first | refine qqd ?_ _ | refine qqg ?_ | refine qqe ?_ _)); refine qqm ?_ NB284_297.out _; (with_reducible repeat (first | refine qqd ?_ _ | refine qqg ?_ | refine qqe ?_ _)); refine qqm ?_ NB284_297.out _; (with_reducible repeat (first | refine qqd ?_ _ | refine qqg ?_ | refine qqe ?_ _)); refine qqm ?_ NB284_297.out _; (with_reducible repeat (first | refine qqd ?_ _ | refine qqg ?_ | refine qqe ?_ _)); refine qqm ?_ NB284_297.out _; (with_reducible repeat (first | refine qqd ?_ _ | refine qqg ?_ | refine qqe ?_ _)); exact BK284.out) hb); have n1_ := Aside0.mk (qqk (g := gb297) (o := .cells #[.int .i64 (rd t288 0), .int .i64 (rd t288 1), .int .i64 (rd t288 2), .int .i64 (rd t288 3), .int .i64 t299, .int .i64 t300, .int .i64 t301, .int .i64 t302, .int .i64 t303, .int .i64 t304] 29 (0, 0)) (by (with_reducible repeat (first | refine qqd ?_ _ | refine qqg ?_ | refine qqe ?_ _)); refine qqo (cs := #[.int .i64 (rd t288 0), .int .i64 (rd t288 1), .int .i64 (rd t288 2), .int .i64 (rd t288 3), .int .i64 t299, .int .i64 t300, .int .i64 t301, .int .i64 t302, .int .i64 t303, .int .i64 0]) ?_ 9 _ rfl; (with_reducible repeat (first | refine qqd ?_ _ | refine qqg ?_ | refine qqe ?_ _)); refine qqo (cs := #[.int .i64 (rd t288 0), .int .i64 (rd t288 1), .int .i64 (rd t288 2), .int .i64 (rd t288 3), .int .i64 t299, .int .i64 t300, .int .i64 t301, .int .i64 t302, .int .i64 0, .int .i64 0]) ?_ 8 _ rfl; (with_reducible repeat (first | refine qqd ?_ _ | refine qqg ?_ | refine qqe ?_ _)); refine qqo (cs := #[.int .i64 (rd t288 0), .int .i64 (rd t288 1), .int .i64 (rd t288 2), .int .i64 (rd t288 3), .int .i64 t299, .int .i64 t300, .int .i64 t301, .int .i64 0, .int .i64 0, .int .i64 0]) ?_ 7 _ rfl; (with_reducible repeat (first | refine qqd ?_ _ | refine qqg ?_ | refine qqe ?_ _)); refine qqo (cs := #[.int .i64 (rd t288 0), .int .i64 (rd t288 1), .int .i64 (rd t288 2), .int .i64 (rd t288 3), .int .i64 t299, .int .i64 t300, .int .i64 0, .int .i64 0, .int .i64 0, .int .i64 0]) ?_ 6 _ rfl; (with_reducible repeat (first | refine qqd ?_ _ | refine qqg ?_ | refine qqe ?_ _)); refine qqo (cs := #[.int .i64 (rd t288 0), .int .i64 (rd t288 1), .int .i64 (rd t288 2), .int .i64 (rd t288 3), .int .i64 t299, .int .i64 0, .int .i64 0, .int .i64 0, .int .i64 0, .int .i64 0]) ?_ 5 _ rfl; (with_reducible repeat (first | refine qqd ?_ _ | refine qqg ?_ | refine qqe ?_ _)); refine qqo (cs := #[.int .i64 (rd t288 0), .int .i64 (rd t288 1), .int .i64 (rd t288 2), .int .i64 (rd t288 3), .int .i64 0, .int .i64 0, .int .i64 0, .int .i64 0, .int .i64 0, .int .i64 0]) ?_ 4 _ rfl; (with_reducible repeat (first | refine qqd ?_ _ | refine qqg ?_ | refine qqe ?_ _)); exact BK297.out) hb); have n2_ := Aside0.mk (qqi (by repeat (first | (with_reducible first | exact HB.out | apply qqc | apply qqa | apply qqb | refine qqf ?_ GE284.out | refine qqf ?_ GE297.out) | exact HB.out)) hb); clear BK284; clear BK297; clear HB; have BK284 := n0_; have BK297 := n1_; have HB := n2_; clear n0_ n1_ n2_; (try clear hb); (try clear hb2); (try clear hk); (try clear hi); obtain ⟨hcz55_0, hcz55_1, hcz55_2, hcz55_3, hcz55_4, hcz55_5, hcz55_6, hcz55_7, hcz55_8, hcz55_9⟩ := bcells10 BK284.out; obtain ⟨hfz55_0, hfz55_1, hfz55_2, hfz55_3, hfz55_4, hfz55_5, hfz55_6, hfz55_7, hfz55_8, hfz55_9⟩ := qzd BK284.out))
               refine bodyPost_ret (results_ct rfl _ _ gb284 29 #[.int .i64 0, .int .i64 0, .int .i64 0, .int .i64 0, .int .i64 0, .int .i64 0, .int .i64 0, .int .i64 0, .int .i64 0, .int .i64 0] (0, 0) _ rfl (by (with_reducible repeat (first | refine qqd ?_ _ | refine qqg ?_ | refine qqe ?_ _)); refine qqo (cs := #[.int .i64 0, .int .i64 0, .int .i64 0, .int .i64 0, .int .i64 0, .int .i64 0, .int .i64 0, .int .i64 0, .int .i64 0, .int .i64 0]) ?_ 9 _ rfl; (with_reducible repeat (first | refine qqd ?_ _ | refine qqg ?_ | refine qqe ?_ _)); refine qqo (cs := #[.int .i64 0, .int .i64 0, .int .i64 0, .int .i64 0, .int .i64 0, .int .i64 0, .int .i64 0, .int .i64 0, .int .i64 0, .int .i64 0]) ?_ 8 _ rfl; (with_reducible repeat (first | refine qqd ?_ _ | refine qqg ?_ | refine qqe ?_ _)); refine qqo (cs := #[.int .i64 0, .int .i64 0, .int .i64 0, .int .i64 0, .int .i64 0, .int .i64 0, .int .i64 0, .int .i64 0, .int .i64 0, .int .i64 0]) ?_ 7 _ rfl; (with_reducible repeat (first | refine qqd ?_ _ | refine qqg ?_ | refine qqe ?_ _)); refine qqo (cs := #[.int .i64 0, .int .i64 0, .int .i64 0, .int .i64 0, .int .i64 0, .int .i64 0, .int .i64 0, .int .i64 0, .int .i64 0, .int .i64 0]) ?_ 6 _ rfl; (with_reducible repeat (first | refine qqd ?_ _ | refine qqg ?_ | refine qqe ?_ _)); refine qqo (cs := #[.int .i64 0, .int .i64 0, .int .i64 0, .int .i64 0, .int .i64 0, .int .i64 0, .int .i64 0, .int .i64 0, .int .i64 0, .int .i64 0]) ?_ 5 _ rfl; (with_reducible repeat (first | refine qqd ?_ _ | refine qqg ?_ | refine qqe ?_ _)); refine qqo (cs := #[.int .i64 0, .int .i64 0, .int .i64 0, .int .i64 0, .int .i64 0, .int .i64 0, .int .i64 0, .int .i64 0, .int .i64 0, .int .i64 0]) ?_ 4 _ rfl; (with_reducible repeat (first | refine qqd ?_ _ | refine qqg ?_ | refine qqe ?_ _)); refine qqo (cs := #[.int .i64 0, .int .i64 0, .int .i64 0, .int .i64 0, .int .i64 0, .int .i64 0, .int .i64 0, .int .i64 0, .int .i64 0, .int .i64 0]) ?_ 3 _ rfl; (with_reducible repeat (first | refine qqd ?_ _ | refine qqg ?_ | refine qqe ?_ _)); refine qqo (cs := #[.int .i64 0, .int .i64 0, .int .i64 0, .int .i64 0, .int .i64 0, .int .i64 0, .int .i64 0, .int .i64 0, .int .i64 0, .int .i64 0]) ?_ 2 _ rfl; (with_reducible repeat (first | refine qqd ?_ _ | refine qqg ?_ | refine qqe ?_ _)); refine qqo (cs := #[.int .i64 0, .int .i64 0, .int .i64 0, .int .i64 0, .int .i64 0, .int .i64 0, .int .i64 0, .int .i64 0, .int .i64 0, .int .i64 0]) ?_ 1 _ rfl; (with_reducible repeat (first | refine qqd ?_ _ | refine qqg ?_ | refine qqe ?_ _)); refine qqo (cs := #[.int .i64 0, .int .i64 0, .int .i64 0, .int .i64 0, .int .i64 0, .int .i64 0, .int .i64 0, .int .i64 0, .int .i64 0, .int .i64 0]) ?_ 0 _ rfl; (with_reducible repeat (first | refine qqd ?_ _ | refine qqg ?_ | refine qqe ?_ _)); exact BK284.out) Tryd.underlying29 rfl (by kernel_rfl)) rfl ?_
               exact ⟨by first | rfl | (simp [qqq, qqp] <;> rfl) | (simp [*, qqq, qqp] <;> rfl), by repeat (first | (with_reducible first | exact HB.out | apply qqc | apply qqa | apply qqb | refine qqf ?_ GE284.out | refine qqf ?_ GE297.out) | exact HB.out)⟩
             ·rw [if_neg c40] at H
              have c40b0 : (t305 == 0) = false := beq_eq_false_iff_ne.mpr c40
              have c40b1 : (t305 != 0) = true := bne_iff_ne.mpr c40
              simp only [Option.some.injEq, Prod.mk.injEq] at H
              obtain ⟨rfl, rfl, rfl, rfl, rfl, rfl, rfl, rfl, rfl, rfl, rfl⟩ := H
              obtain ⟨i056, hi056, _, hsz56, _⟩ := info_parts info5
              obtain ⟨A56, hcut56, hA56, hC56⟩ := print_drop_of (P := Tryd.prog) (Value.int .u8) 0 31 5 .i64 Tryd.underlying31 hi056 hsz56 A0 c0 l0 t291 (of_decide_eq_true (by first | (with_reducible assumption) | assumption)) (of_decide_eq_true (by first | (with_reducible assumption) | assumption)) HC0.out
              have HR298 := Aside0.mk (Kd.C_of_reads (h1 := fun _ => rfl) (hA56 _ (Kd.reads_of_C HR0.out)))
              have HC298 := Aside0.mk hC56
              clear hA56 hC56 hi056 hsz56
              go_wp2_with (first | ((with_reducible refine qza (f := 39) rfl ?_); refine goesL_ (some 55) rfl rfl Tryd.func39 (by kernel_rfl) rfl #[.slice A56 (l0.drop (t291 : Int).toNat).length (c0 - t291.toNat)] rfl (by (try simp only [List.map_toArray, List.map_cons, List.map_nil]); first | done | (rw [show (l0.drop (t291 : Int).toNat).length = (l0.length - t291.toNat) from List.length_drop] <;> rfl) | rfl | (simp only [List.length_drop, List.length_take]; rfl)) ?_; (with_reducible refine (rule_Get.calls kj7 _ _ (l0.drop (t291 : Int).toNat) t299 t300 t301 t302 t303 t304 t305 _ ?side1 ?side2 A39.out).mono ?_); (case side1 => repeat (first | exact (Kd.C_below HR298.out HB.out) | (with_reducible refine Kd.C_alloc ?_ _) | (with_reducible refine Kd.C_drewN ?_ _) | (with_reducible refine Kd.C_drew ?_))); (case side2 => exact HC298.out); rintro e w57 ⟨rfl, hb⟩; refine ⟨_, rfl, ?_⟩; have n0_ := Aside0.mk (qqk (g := gb284) (o := .cells #[.int .i64 0, .int .i64 0, .int .i64 0, .int .i64 0, .int .i64 0, .int .i64 0, .int .i64 0, .int .i64 0, .int .i64 0, .int .i64 0] 29 (0, 0)) (by (with_reducible repeat (first | refine qqd ?_ _ | refine qqg ?_ | refine qqe ?_ _)); exact BK284.out) hb); have n1_ := Aside0.mk (qqk (g := gb297) (o := .cells #[.int .i64 (rd t288 0), .int .i64 (rd t288 1), .int .i64 (rd t288 2), .int .i64 (rd t288 3), .int .i64 0, .int .i64 0, .int .i64 0, .int .i64 0, .int .i64 0, .int .i64 0] 29 (0, 0)) (by (with_reducible repeat (first | refine qqd ?_ _ | refine qqg ?_ | refine qqe ?_ _)); exact BK297.out) hb); have n2_ := Aside0.mk (qqi (by repeat (first | (with_reducible first | exact HB.out | apply qqc | apply qqa | apply qqb | refine qqf ?_ GE284.out | refine qqf ?_ GE297.out) | exact HB.out)) hb); clear BK284; clear BK297; clear HB; have BK284 := n0_; have BK297 := n1_; have HB := n2_; clear n0_ n1_ n2_; (try clear hb); (try clear hb2); (try clear hk); (try clear hi); have hnb58 := NB297_284.out; have hnc58 := NB284_297.out; obtain ⟨hcz59_0, hcz59_1, hcz59_2, hcz59_3, hcz59_4, hcz59_5, hcz59_6, hcz59_7, hcz59_8, hcz59_9⟩ := bcells10 BK297.out; obtain ⟨hfz59_0, hfz59_1, hfz59_2, hfz59_3, hfz59_4, hfz59_5, hfz59_6, hfz59_7, hfz59_8, hfz59_9⟩ := qzd BK297.out; obtain ⟨hcz60_0, hcz60_1, hcz60_2, hcz60_3, hcz60_4, hcz60_5, hcz60_6, hcz60_7, hcz60_8, hcz60_9⟩ := bcells10 BK284.out; obtain ⟨hfz60_0, hfz60_1, hfz60_2, hfz60_3, hfz60_4, hfz60_5, hfz60_6, hfz60_7, hfz60_8, hfz60_9⟩ := qzd BK284.out))
              refine bodyPost_ret (results_ct rfl _ _ gb284 29 #[.int .i64 0, .int .i64 0, .int .i64 0, .int .i64 0, .int .i64 0, .int .i64 0, .int .i64 0, .int .i64 0, .int .i64 0, .int .i64 0] (0, 0) _ rfl (by (with_reducible repeat (first | refine qqd ?_ _ | refine qqg ?_ | refine qqe ?_ _)); refine qqo (cs := #[.int .i64 0, .int .i64 0, .int .i64 0, .int .i64 0, .int .i64 0, .int .i64 0, .int .i64 0, .int .i64 0, .int .i64 0, .int .i64 0]) ?_ 9 _ rfl; (with_reducible repeat (first | refine qqd ?_ _ | refine qqg ?_ | refine qqe ?_ _)); refine qqo (cs := #[.int .i64 0, .int .i64 0, .int .i64 0, .int .i64 0, .int .i64 0, .int .i64 0, .int .i64 0, .int .i64 0, .int .i64 0, .int .i64 0]) ?_ 8 _ rfl; (with_reducible repeat (first | refine qqd ?_ _ | refine qqg ?_ | refine qqe ?_ _)); refine qqo (cs := #[.int .i64 0, .int .i64 0, .int .i64 0, .int .i64 0, .int .i64 0, .int .i64 0, .int .i64 0, .int .i64 0, .int .i64 0, .int .i64 0]) ?_ 7 _ rfl; (with_reducible repeat (first | refine qqd ?_ _ | refine qqg ?_ | refine qqe ?_ _)); refine qqo (cs := #[.int .i64 0, .int .i64 0, .int .i64 0, .int .i64 0, .int .i64 0, .int .i64 0, .int .i64 0, .int .i64 0, .int .i64 0, .int .i64 0]) ?_ 6 _ rfl; (with_reducible repeat (first | refine qqd ?_ _ | refine qqg ?_ | refine qqe ?_ _)); refine qqo (cs := #[.int .i64 0, .int .i64 0, .int .i64 0, .int .i64 0, .int .i64 0, .int .i64 0, .int .i64 0, .int .i64 0, .int .i64 0, .int .i64 0]) ?_ 5 _ rfl; (with_reducible repeat (first | refine qqd ?_ _ | refine qqg ?_ | refine qqe ?_ _)); refine qqo (cs := #[.int .i64 0, .int .i64 0, .int .i64 0, .int .i64 0, .int .i64 0, .int .i64 0, .int .i64 0, .int .i64 0, .int .i64 0, .int .i64 0]) ?_ 4 _ rfl; (with_reducible repeat (first | refine qqd ?_ _ | refine qqg ?_ | refine qqe ?_ _)); refine qqo (cs := #[.int .i64 0, .int .i64 0, .int .i64 0, .int .i64 0, .int .i64 0, .int .i64 0, .int .i64 0, .int .i64 0, .int .i64 0, .int .i64 0]) ?_ 3 _ rfl; (with_reducible repeat (first | refine qqd ?_ _ | refine qqg ?_ | refine qqe ?_ _)); refine qqo (cs := #[.int .i64 0, .int .i64 0, .int .i64 0, .int .i64 0, .int .i64 0, .int .i64 0, .int .i64 0, .int .i64 0, .int .i64 0, .int .i64 0]) ?_ 2 _ rfl; (with_reducible repeat (first | refine qqd ?_ _ | refine qqg ?_ | refine qqe ?_ _)); refine qqo (cs := #[.int .i64 0, .int .i64 0, .int .i64 0, .int .i64 0, .int .i64 0, .int .i64 0, .int .i64 0, .int .i64 0, .int .i64 0, .int .i64 0]) ?_ 1 _ rfl; (with_reducible repeat (first | refine qqd ?_ _ | refine qqg ?_ | refine qqe ?_ _)); refine qqo (cs := #[.int .i64 0, .int .i64 0, .int .i64 0, .int .i64 0, .int .i64 0, .int .i64 0, .int .i64 0, .int .i64 0, .int .i64 0, .int .i64 0]) ?_ 0 _ rfl; (with_reducible repeat (first | refine qqd ?_ _ | refine qqg ?_ | refine qqe ?_ _)); refine qqm ?_ NB284_297.out _; (with_reducible repeat (first | refine qqd ?_ _ | refine qqg ?_ | refine qqe ?_ _)); refine qqm ?_ NB284_297.out _; (with_reducible repeat (first | refine qqd ?_ _ | refine qqg ?_ | refine qqe ?_ _)); refine qqm ?_ NB284_297.out _; (with_reducible repeat (first | refine qqd ?_ _ | refine qqg ?_ | refine qqe ?_ _)); refine qqm ?_ NB284_297.out _; (with_reducible repeat (first | refine qqd ?_ _ | refine qqg ?_ | refine qqe ?_ _)); refine qqm ?_ NB284_297.out _; (with_reducible repeat (first | refine qqd ?_ _ | refine qqg ?_ | refine qqe ?_ _)); refine qqm ?_ NB284_297.out _; (with_reducible repeat (first | refine qqd ?_ _ | refine qqg ?_ | refine qqe ?_ _)); exact BK284.out) Tryd.underlying29 rfl (by kernel_rfl)) rfl ?_
              exact ⟨by first | rfl | (simp [qqq, qqp] <;> rfl) | (simp [*, qqq, qqp] <;> rfl), by repeat (first | (with_reducible first | exact HB.out | apply qqc | apply qqa | apply qqb | refine qqf ?_ GE284.out | refine qqf ?_ GE297.out) | exact HB.out)⟩
            ·rw [if_neg c38] at H
             exact absurd H (by simp)
           ·rw [if_neg c37] at H
            exact absurd H (by simp)
          ·rw [if_neg c36] at H
           have c36b0 : (x8_7 == 18) = false := beq_eq_false_iff_ne.mpr c36
           have c36b1 : (x8_7 != 18) = true := bne_iff_ne.mpr c36
           replace H := Option.bind_eq_some_iff.mp H
           obtain ⟨t307, A610, H⟩ := H
           replace H : (if t307 = true then (some ((rd t288 0), (rd t288 1), (rd t288 2), (rd t288 3), 0, 0, 0, 0, 0, 0, 0)) else (some (0, 0, 0, 0, 0, 0, 0, 0, 0, 0, 2))) = some (r1, r2, r3, r4, r5, r6, r7, r8, r9, r10, r11) := H
           have A61 := Aside0.mk A610
           clear A610
           by_cases c62 : t307 = true
           ·subst c62
            have H1 : (some ((rd t288 0), (rd t288 1), (rd t288 2), (rd t288 3), 0, 0, 0, 0, 0, 0, 0)) = some (r1, r2, r3, r4, r5, r6, r7, r8, r9, r10, r11) := by rw [if_pos rfl] at H; exact H
            clear H
            have H := H1
            clear H1
            simp only [Option.some.injEq, Prod.mk.injEq] at H
            obtain ⟨rfl, rfl, rfl, rfl, rfl, rfl, rfl, rfl, rfl, rfl, rfl⟩ := H
            have hnb63 := NB297_284.out
            have hnc63 := NB284_297.out
            obtain ⟨hcz64_0, hcz64_1, hcz64_2, hcz64_3, hcz64_4, hcz64_5, hcz64_6, hcz64_7, hcz64_8, hcz64_9⟩ := bcells10 BK297.out
            obtain ⟨hfz64_0, hfz64_1, hfz64_2, hfz64_3, hfz64_4, hfz64_5, hfz64_6, hfz64_7, hfz64_8, hfz64_9⟩ := qzd BK297.out
            go_wp2_with (first | ((with_reducible refine qza (f := 15) rfl ?_); refine goesL_ (some 63) rfl rfl Tryd.func15 (by kernel_rfl) rfl #[.agg #[.int .i64 (rd t288 0), .int .i64 (rd t288 1), .int .i64 (rd t288 2), .int .i64 (rd t288 3), .int .i64 0, .int .i64 0, .int .i64 0, .int .i64 0, .int .i64 0, .int .i64 0]] rfl (by (try simp only [List.map_toArray, List.map_cons, List.map_nil]); first | done | rfl | (simp only [List.length_drop, List.length_take]; rfl)) ?_; (with_reducible refine (msg_May.calls (rd t288 0) (rd t288 1) (rd t288 2) (rd t288 3) 0 0 0 0 0 0 true _ ?sideG_ A61.out).mono ?_); (case sideG_ => exact hG.below rfl (by repeat (first | (with_reducible first | exact HB.out | apply qqc | apply qqa | apply qqb | refine qqf ?_ GE284.out | refine qqf ?_ GE297.out) | exact HB.out))); rintro e w65 ⟨rfl, hb⟩; refine ⟨_, rfl, ?_⟩; have n0_ := Aside0.mk (qqk (g := gb284) (o := .cells #[.int .i64 0, .int .i64 0, .int .i64 0, .int .i64 0, .int .i64 0, .int .i64 0, .int .i64 0, .int .i64 0, .int .i64 0, .int .i64 0] 29 (0, 0)) (by (with_reducible repeat (first | refine qqd ?_ _ | refine qqg ?_ | refine qqe ?_ _)); exact BK284.out) hb); have n1_ := Aside0.mk (qqk (g := gb297) (o := .cells #[.int .i64 (rd t288 0), .int .i64 (rd t288 1), .int .i64 (rd t288 2), .int .i64 (rd t288 3), .int .i64 0, .int .i64 0, .int .i64 0, .int .i64 0, .int .i64 0, .int .i64 0] 29 (0, 0)) (by (with_reducible repeat (first | refine qqd ?_ _ | refine qqg ?_ | refine qqe ?_ _)); exact BK297.out) hb); have n2_ := Aside0.mk (qqi (by repeat (first | (with_reducible first | exact HB.out | apply qqc | apply qqa | apply qqb | refine qqf ?_ GE284.out | refine qqf ?_ GE297.out) | exact HB.out)) hb); clear BK284; clear BK297; clear HB; have BK284 := n0_; have BK297 := n1_; have HB := n2_; clear n0_ n1_ n2_; (try clear hb); (try clear hb2); (try clear hk); (try clear hi); obtain ⟨hcz66_0, hcz66_1, hcz66_2, hcz66_3, hcz66_4, hcz66_5, hcz66_6, hcz66_7, hcz66_8, hcz66_9⟩ := bcells10 BK297.out; obtain ⟨hfz66_0, hfz66_1, hfz66_2, hfz66_3, hfz66_4, hfz66_5, hfz66_6, hfz66_7, hfz66_8, hfz66_9⟩ := qzd BK297.out; obtain ⟨hcz67_0, hcz67_1, hcz67_2, hcz67_3, hcz67_4, hcz67_5, hcz67_6, hcz67_7, hcz67_8, hcz67_9⟩ := bcells10 BK284.out; obtain ⟨hfz67_0, hfz67_1, hfz67_2, hfz67_3, hfz67_4, hfz67_5, hfz67_6, hfz67_7, hfz67_8, hfz67_9⟩ := qzd BK284.out))
            refine bodyPost_ret (results_ct rfl _ _ gb284 29 #[.int .i64 (rd t288 0), .int .i64 (rd t288 1), .int .i64 (rd t288 2), .int .i64 (rd t288 3), .int .i64 0, .int .i64 0, .int .i64 0, .int .i64 0, .int .i64 0, .int .i64 0] (0, 0) _ rfl (by (with_reducible repeat (first | refine qqd ?_ _ | refine qqg ?_ | refine qqe ?_ _)); refine qqo (cs := #[.int .i64 (rd t288 0), .int .i64 (rd t288 1), .int .i64 (rd t288 2), .int .i64 (rd t288 3), .int .i64 0, .int .i64 0, .int .i64 0, .int .i64 0, .int .i64 0, .int .i64 0]) ?_ 9 _ rfl; (with_reducible repeat (first | refine qqd ?_ _ | refine qqg ?_ | refine qqe ?_ _)); refine qqo (cs := #[.int .i64 (rd t288 0), .int .i64 (rd t288 1), .int .i64 (rd t288 2), .int .i64 (rd t288 3), .int .i64 0, .int .i64 0, .int .i64 0, .int .i64 0, .int .i64 0, .int .i64 0]) ?_ 8 _ rfl; (with_reducible repeat (first | refine qqd ?_ _ | refine qqg ?_ | refine qqe ?_ _)); refine qqo (cs := #[.int .i64 (rd t288 0), .int .i64 (rd t288 1), .int .i64 (rd t288 2), .int .i64 (rd t288 3), .int .i64 0, .int .i64 0, .int .i64 0, .int .i64 0, .int .i64 0, .int .i64 0]) ?_ 7 _ rfl; (with_reducible repeat (first | refine qqd ?_ _ | refine qqg ?_ | refine qqe ?_ _)); refine qqo (cs := #[.int .i64 (rd t288 0), .int .i64 (rd t288 1), .int .i64 (rd t288 2), .int .i64 (rd t288 3), .int .i64 0, .int .i64 0, .int .i64 0, .int .i64 0, .int .i64 0, .int .i64 0]) ?_ 6 _ rfl; (with_reducible repeat (first | refine qqd ?_ _ | refine qqg ?_ | refine qqe ?_ _)); refine qqo (cs := #[.int .i64 (rd t288 0), .int .i64 (rd t288 1), .int .i64 (rd t288 2), .int .i64 (rd t288 3), .int .i64 0, .int .i64 0, .int .i64 0, .int .i64 0, .int .i64 0, .int .i64 0]) ?_ 5 _ rfl; (with_reducible repeat (first | refine qqd ?_ _ | refine qqg ?_ | refine qqe ?_ _)); refine qqo (cs := #[.int .i64 (rd t288 0), .int .i64 (rd t288 1), .int .i64 (rd t288 2), .int .i64 (rd t288 3), .int .i64 0, .int .i64 0, .int .i64 0, .int .i64 0, .int .i64 0, .int .i64 0]) ?_ 4 _ rfl; (with_reducible repeat (first | refine qqd ?_ _ | refine qqg ?_ | refine qqe ?_ _)); refine qqo (cs := #[.int .i64 (rd t288 0), .int .i64 (rd t288 1), .int .i64 (rd t288 2), .int .i64 0, .int .i64 0, .int .i64 0, .int .i64 0, .int .i64 0, .int .i64 0, .int .i64 0]) ?_ 3 _ rfl; (with_reducible repeat (first | refine qqd ?_ _ | refine qqg ?_ | refine qqe ?_ _)); refine qqo (cs := #[.int .i64 (rd t288 0), .int .i64 (rd t288 1), .int .i64 0, .int .i64 0, .int .i64 0, .int .i64 0, .int .i64 0, .int .i64 0, .int .i64 0, .int .i64 0]) ?_ 2 _ rfl; (with_reducible repeat (first | refine qqd ?_ _ | refine qqg ?_ | refine qqe ?_ _)); refine qqo (cs := #[.int .i64 (rd t288 0), .int .i64 0, .int .i64 0, .int .i64 0, .int .i64 0, .int .i64 0, .int .i64 0, .int .i64 0, .int .i64 0, .int .i64 0]) ?_ 1 _ rfl; (with_reducible repeat (first | refine qqd ?_ _ | refine qqg ?_ | refine qqe ?_ _)); refine qqo (cs := #[.int .i64 0, .int .i64 0, .int .i64 0, .int .i64 0, .int .i64 0, .int .i64 0, .int .i64 0, .int .i64 0, .int .i64 0, .int .i64 0]) ?_ 0 _ rfl; (with_reducible repeat (first | refine qqd ?_ _ | refine qqg ?_ | refine qqe ?_ _)); exact BK284.out) Tryd.underlying29 rfl (by kernel_rfl)) rfl ?_
            exact ⟨by first | rfl | (simp [qqq, qqp] <;> rfl) | (simp [*, qqq, qqp] <;> rfl), by repeat (first | (with_reducible first | exact HB.out | apply qqc | apply qqa | apply qqb | refine qqf ?_ GE284.out | refine qqf ?_ GE297.out) | exact HB.out)⟩
           ·replace c62 := Bool.eq_false_iff.mpr c62
            subst c62
            have H1 : (some (0, 0, 0, 0, 0, 0, 0, 0, 0, 0, 2)) = some (r1, r2, r3, r4, r5, r6, r7, r8, r9, r10, r11) := by rw [if_neg (show ¬ (false = true) by decide)] at H; exact H
            clear H
            have H := H1
            clear H1
            simp only [Option.some.injEq, Prod.mk.injEq] at H
            obtain ⟨rfl, rfl, rfl, rfl, rfl, rfl, rfl, rfl, rfl, rfl, rfl⟩ := H
            have hnb68 := NB297_284.out
            have hnc68 := NB284_297.out
            obtain ⟨hcz69_0, hcz69_1, hcz69_2, hcz69_3, hcz69_4, hcz69_5, hcz69_6, hcz69_7, hcz69_8, hcz69_9⟩ := bcells10 BK297.out
            obtain ⟨hfz69_0, hfz69_1, hfz69_2, hfz69_3, hfz69_4, hfz69_5, hfz69_6, hfz69_7, hfz69_8, hfz69_9⟩ := qzd BK297.out
            go_wp2_with (first | ((with_reducible refine qza (f := 15) rfl ?_); refine goesL_ (some 63) rfl rfl Tryd.func15 (by kernel_rfl) rfl #[.agg #[.int .i64 (rd t288 0), .int .i64 (rd t288 1), .int .i64 (rd t288 2), .int .i64 (rd t288 3), .int .i64 0, .int .i64 0, .int .i64 0, .int .i64 0, .int .i64 0, .int .i64 0]] rfl (by (try simp only [List.map_toArray, List.map_cons, List.map_nil]); first | done | rfl | (simp only [List.length_drop, List.length_take]; rfl)) ?_; (with_reducible refine (msg_May.calls (rd t288 0) (rd t288 1) (rd t288 2) (rd t288 3) 0 0 0 0 0 0 false _ ?sideG_ A61.out).mono ?_); (case sideG_ => exact hG.below rfl (by repeat (first | (with_reducible first | exact HB.out | apply qqc | apply qqa | apply qqb | refine qqf ?_ GE284.out | refine qqf ?_ GE297.out) | exact HB.out))); rintro e w70 ⟨rfl, hb⟩; refine ⟨_, rfl, ?_⟩; have n0_ := Aside0.mk (qqk (g := gb284) (o := .cells #[.int .i64 0, .int .i64 0, .int .i64 0, .int .i64 0, .int .i64 0, .int .i64 0, .int .i64 0, .int .i64 0, .int .i64 0, .int .i64 0] 29 (0, 0)) (by (with_reducible repeat (first | refine qqd ?_ _ | refine qqg ?_ | refine qqe ?_ _)); exact BK284.out) hb); have n1_ := Aside0.mk (qqk (g := gb297) (o := .cells #[.int .i64 (rd t288 0), .int .i64 (rd t288 1), .int .i64 (rd t288 2), .int .i64 (rd t288 3), .int .i64 0, .int .i64 0, .int .i64 0, .int .i64 0, .int .i64 0, .int .i64 0] 29 (0, 0)) (by (with_reducible repeat (first | refine qqd ?_ _ | refine qqg ?_ | refine qqe ?_ _)); exact BK297.out) hb); have n2_ := Aside0.mk (qqi (by repeat (first | (with_reducible first | exact HB.out | apply qqc | apply qqa | apply qqb | refine qqf ?_ GE284.out | refine qqf ?_ GE297.out) | exact HB.out)) hb); clear BK284; clear BK297; clear HB; have BK284 := n0_; have BK297 := n1_; have HB := n2_; clear n0_ n1_ n2_; (try clear hb); (try clear hb2); (try clear hk); (try clear hi); obtain ⟨hcz71_0, hcz71_1, hcz71_2, hcz71_3, hcz71_4, hcz71_5, hcz71_6, hcz71_7, hcz71_8, hcz71_9⟩ := bcells10 BK284.out; obtain ⟨hfz71_0, hfz71_1, hfz71_2, hfz71_3, hfz71_4, hfz71_5, hfz71_6, hfz71_7, hfz71_8, hfz71_9⟩ := qzd BK284.out))
            refine bodyPost_ret (results_ct rfl _ _ gb284 29 #[.int .i64 0, .int .i64 0, .int .i64 0, .int .i64 0, .int .i64 0, .int .i64 0, .int .i64 0, .int .i64 0, .int .i64 0, .int .i64 0] (0, 0) _ rfl (by (with_reducible repeat (first | refine qqd ?_ _ | refine qqg ?_ | refine qqe ?_ _)); refine qqo (cs := #[.int .i64 0, .int .i64 0, .int .i64 0, .int .i64 0, .int .i64 0, .int .i64 0, .int .i64 0, .int .i64 0, .int .i64 0, .int .i64 0]) ?_ 9 _ rfl; (with_reducible repeat (first | refine qqd ?_ _ | refine qqg ?_ | refine qqe ?_ _)); refine qqo (cs := #[.int .i64 0, .int .i64 0, .int .i64 0, .int .i64 0, .int .i64 0, .int .i64 0, .int .i64 0, .int .i64 0, .int .i64 0, .int .i64 0]) ?_ 8 _ rfl; (with_reducible repeat (first | refine qqd ?_ _ | refine qqg ?_ | refine qqe ?_ _)); refine qqo (cs := #[.int .i64 0, .int .i64 0, .int .i64 0, .int .i64 0, .int .i64 0, .int .i64 0, .int .i64 0, .int .i64 0, .int .i64 0, .int .i64 0]) ?_ 7 _ rfl; (with_reducible repeat (first | refine qqd ?_ _ | refine qqg ?_ | refine qqe ?_ _)); refine qqo (cs := #[.int .i64 0, .int .i64 0, .int .i64 0, .int .i64 0, .int .i64 0, .int .i64 0, .int .i64 0, .int .i64 0, .int .i64 0, .int .i64 0]) ?_ 6 _ rfl; (with_reducible repeat (first | refine qqd ?_ _ | refine qqg ?_ | refine qqe ?_ _)); refine qqo (cs := #[.int .i64 0, .int .i64 0, .int .i64 0, .int .i64 0, .int .i64 0, .int .i64 0, .int .i64 0, .int .i64 0, .int .i64 0, .int .i64 0]) ?_ 5 _ rfl; (with_reducible repeat (first | refine qqd ?_ _ | refine qqg ?_ | refine qqe ?_ _)); refine qqo (cs := #[.int .i64 0, .int .i64 0, .int .i64 0, .int .i64 0, .int .i64 0, .int .i64 0, .int .i64 0, .int .i64 0, .int .i64 0, .int .i64 0]) ?_ 4 _ rfl; (with_reducible repeat (first | refine qqd ?_ _ | refine qqg ?_ | refine qqe ?_ _)); refine qqo (cs := #[.int .i64 0, .int .i64 0, .int .i64 0, .int .i64 0, .int .i64 0, .int .i64 0, .int .i64 0, .int .i64 0, .int .i64 0, .int .i64 0]) ?_ 3 _ rfl; (with_reducible repeat (first | refine qqd ?_ _ | refine qqg ?_ | refine qqe ?_ _)); refine qqo (cs := #[.int .i64 0, .int .i64 0, .int .i64 0, .int .i64 0, .int .i64 0, .int .i64 0, .int .i64 0, .int .i64 0, .int .i64 0, .int .i64 0]) ?_ 2 _ rfl; (with_reducible repeat (first | refine qqd ?_ _ | refine qqg ?_ | refine qqe ?_ _)); refine qqo (cs := #[.int .i64 0, .int .i64 0, .int .i64 0, .int .i64 0, .int .i64 0, .int .i64 0, .int .i64 0, .int .i64 0, .int .i64 0, .int .i64 0]) ?_ 1 _ rfl; (with_reducible repeat (first | refine qqd ?_ _ | refine qqg ?_ | refine qqe ?_ _)); refine qqo (cs := #[.int .i64 0, .int .i64 0, .int .i64 0, .int .i64 0, .int .i64 0, .int .i64 0, .int .i64 0, .int .i64 0, .int .i64 0, .int .i64 0]) ?_ 0 _ rfl; (with_reducible repeat (first | refine qqd ?_ _ | refine qqg ?_ | refine qqe ?_ _)); exact BK284.out) Tryd.underlying29 rfl (by kernel_rfl)) rfl ?_
            exact ⟨by first | rfl | (simp [qqq, qqp] <;> rfl) | (simp [*, qqq, qqp] <;> rfl), by repeat (first | (with_reducible first | exact HB.out | apply qqc | apply qqa | apply qqb | refine qqf ?_ GE284.out | refine qqf ?_ GE297.out) | exact HB.out)⟩
     ·rw [if_neg c7] at H
      exact absurd H (by simp)
    ·rw [if_neg c6] at H
     exact absurd H (by simp)
   ·rw [if_neg c5] at H
    exact absurd H (by simp)
  ·rw [if_neg c4] at H
   exact absurd H (by simp)
 ·rw [if_neg c3] at H
  have c3b0 : (t292 == 0) = false := beq_eq_false_iff_ne.mpr c3
  have c3b1 : (t292 != 0) = true := bne_iff_ne.mpr c3
  simp only [Option.some.injEq, Prod.mk.injEq] at H
  obtain ⟨rfl, rfl, rfl, rfl, rfl, rfl, rfl, rfl, rfl, rfl, rfl⟩ := H
  go_enter Tryd.func28, Tryd.ntmps28
  go_wp2_with (first | ((with_reducible refine qqv (N := 2) rfl ?_); refine qqx ?hg (N := 2) ?hd (cs := #[.int .i64 0, .int .i64 0, .int .i64 0, .int .i64 0, .int .i64 0, .int .i64 0, .int .i64 0, .int .i64 0, .int .i64 0, .int .i64 0]) (t := 29) ?hr ?_; (case hd => rfl); (case hg => rfl); (case hr => first | (go_simp; done) | (go_simp; rfl)); intro gb284 hg w72 hbox hb; have n0_ := Aside0.mk (qqi (by repeat (first | (with_reducible first | exact HB.out | apply qqc | apply qqa | apply qqb) | exact HB.out)) hb); have n1_ := Aside0.mk (hbox); have n2_ := Aside0.mk ((by rw [hg]; exact (qqj (by repeat (first | (with_reducible first | exact HB.out | apply qqc | apply qqa | apply qqb) | exact HB.out))) : w.heap.size ≤ gb284)); have n3_ := Aside0.mk ((by rw [hg]; exact (qqj (by repeat (first | (with_reducible first | exact HB.out | apply qqc | apply qqa | apply qqb) | exact HB.out))) : w.heap.size ≤ gb284)); clear HB; have HB := n0_; have BK284 := n1_; have GW284 := n2_; have GE284 := n3_; clear n0_ n1_ n2_ n3_; clear hb hbox hg) | ((with_reducible refine qqv (N := 11) rfl ?_); refine Kd.R_lit (Kd.int .i64) _ 3 ?hg (N := 11) ?hd (xs := ([1, 3, 3, 2] : List Int)) (inner := [.int .i64 1, .int .i64 3, .int .i64 3, .int .i64 2]) (ok := fun _ => True) (okp := fun _ => True) ?hr ?hp (fun _ hk => hk) trivial (Below.refl _ _) (Nat.le_refl _) (by simp) ?_; (case hd => rfl); (case hg => rfl); (case hr => first | (go_simp; done) | (go_simp; rfl)); (case hp => exact (Reps.one (show Kd.M (Kd.int .i64) _ _ _ 1 [.int .i64 1] from rfl) (Reps.one (show Kd.M (Kd.int .i64) _ _ _ 3 [.int .i64 3] from rfl) (Reps.one (show Kd.M (Kd.int .i64) _ _ _ 3 [.int .i64 3] from rfl) (Reps.one (show Kd.M (Kd.int .i64) _ _ _ 2 [.int .i64 2] from rfl) (Reps.none _ _)))))); intro v286 w73 ho74 hb hg_ hnew_; clear hg_ hnew_; (first | rw [← Ny285.out] at ho74 | (simp only [Int.reduceToNat] at ho74; rw [← Ny285.out] at ho74)); have n0_ := Aside0.mk (Kd.R_lower ho74 (qqj (by repeat (first | (with_reducible first | exact HB.out | apply qqc | apply qqa | apply qqb | refine qqf ?_ GE284.out) | exact HB.out)))); have n1_ := Aside0.mk (qqk (g := gb284) (o := .cells #[.int .i64 0, .int .i64 0, .int .i64 0, .int .i64 0, .int .i64 0, .int .i64 0, .int .i64 0, .int .i64 0, .int .i64 0, .int .i64 0] 29 (0, 0)) (by (with_reducible repeat (first | refine qqd ?_ _ | refine qqg ?_ | refine qqe ?_ _)); exact BK284.out) hb); have n2_ := Aside0.mk (qqi (by repeat (first | (with_reducible first | exact HB.out | apply qqc | apply qqa | apply qqb | refine qqf ?_ GE284.out) | exact HB.out)) hb); clear BK284; clear HB; have HO287 := n0_; have BK284 := n1_; have HB := n2_; clear n0_ n1_ n2_; clear hb ho74; obtain ⟨Ao75, co75, eo75⟩ := Kd.R_slice HO287.out; subst eo75) | ((with_reducible refine qza (f := 38) rfl ?_); refine goesL_ (some 12) rfl rfl Tryd.func38 (by kernel_rfl) rfl #[.slice A0 l0.length c0, .slice Ao75 y285.length co75] rfl (by (try simp only [List.map_toArray, List.map_cons, List.map_nil]); first | done | rfl | (simp only [List.length_drop, List.length_take]; rfl)) ?_; (with_reducible refine (octets_GetAll.calls k (fun k_ => k_ < w.heap.size) _ _ l0 _ _ y285 t288 t291 t292 _ ?side1 ?side2 ?side3 A2.out).mono ?_); (case side1 => exact Kd.V_mk HC0.out (Kd.F_below (Kd.C_F (Kd.heap_int .u8) HR0.out) (by repeat (first | (with_reducible first | exact HB.out | apply qqc | apply qqa | apply qqb | refine qqf ?_ GE284.out) | exact HB.out)))); (case side2 => repeat (first | exact (Kd.R_reads' HO287.out).2.2 | (with_reducible refine Kd.C_alloc ?_ _) | (with_reducible refine Kd.C_drewN ?_ _) | (with_reducible refine Kd.C_drew ?_))); (case side3 => exact (Kd.R_reads' HO287.out).2.1); rintro e w76 ⟨v289, rfl, ho0, hb⟩; refine ⟨_, rfl, ?_⟩; have n0_ := Aside0.mk (Kd.R_elder' (by (with_reducible repeat (first | apply Kd.R_alloc | apply Kd.R_drewN | apply Kd.R_drew)); exact HO287.out) (Kd.R_base ho0) hb); have n1_ := Aside0.mk (Kd.R_lower (Kd.R_new' (Kd.R_mono (ok' := fun k_ => True) ho0 (fun _ hk_ => trivial)) (Kd.R_lt (by (with_reducible repeat (first | apply Kd.R_alloc | apply Kd.R_drewN | apply Kd.R_drew)); exact HO287.out))) (qqj (by repeat (first | (with_reducible first | exact HB.out | apply qqc | apply qqa | apply qqb | refine qqf ?_ GE284.out) | exact HB.out)))); have n2_ := Aside0.mk (qqk (g := gb284) (o := .cells #[.int .i64 0, .int .i64 0, .int .i64 0, .int .i64 0, .int .i64 0, .int .i64 0, .int .i64 0, .int .i64 0, .int .i64 0, .int .i64 0] 29 (0, 0)) (by (with_reducible repeat (first | refine qqd ?_ _ | refine qqg ?_ | refine qqe ?_ _)); exact BK284.out) hb); have n3_ := Aside0.mk (qqi (by repeat (first | (with_reducible first | exact HB.out | apply qqc | apply qqa | apply qqb | refine qqf ?_ GE284.out) | exact HB.out)) hb); clear HO287; clear BK284; clear HB; have HO287 := n0_; have HO290 := n1_; have BK284 := n2_; have HB := n3_; clear n0_ n1_ n2_ n3_; (try clear hb); (try clear hb2); (try clear hk); (try clear hi); (try clear ho0); obtain ⟨hcz77_0, hcz77_1, hcz77_2, hcz77_3, hcz77_4, hcz77_5, hcz77_6, hcz77_7, hcz77_8, hcz77_9⟩ := bcells10 BK284.out; obtain ⟨hfz77_0, hfz77_1, hfz77_2, hfz77_3, hfz77_4, hfz77_5, hfz77_6, hfz77_7, hfz77_8, hfz77_9⟩ := qzd BK284.out))
  refine bodyPost_ret (results_ct rfl _ _ gb284 29 #[.int .i64 0, .int .i64 0, .int .i64 0, .int .i64 0, .int .i64 0, .int .i64 0, .int .i64 0, .int .i64 0, .int .i64 0, .int .i64 0] (0, 0) _ rfl (by (with_reducible repeat (first | refine qqd ?_ _ | refine qqg ?_ | refine qqe ?_ _)); refine qqo (cs := #[.int .i64 0, .int .i64 0, .int .i64 0, .int .i64 0, .int .i64 0, .int .i64 0, .int .i64 0, .int .i64 0, .int .i64 0, .int .i64 0]) ?_ 9 _ rfl; (with_reducible repeat (first | refine qqd ?_ _ | refine qqg ?_ | refine qqe ?_ _)); refine qqo (cs := #[.int .i64 0, .int .i64 0, .int .i64 0, .int .i64 0, .int .i64 0, .int .i64 0, .int .i64 0, .int .i64 0, .int .i64 0, .int .i64 0]) ?_ 8 _ rfl; (with_reducible repeat (first | refine qqd ?_ _ | refine qqg ?_ | refine qqe ?_ _)); refine qqo (cs := #[.int .i64 0, .int .i64 0, .int .i64 0, .int .i64 0, .int .i64 0, .int .i64 0, .int .i64 0, .int .i64 0, .int .i64 0, .int .i64 0]) ?_ 7 _ rfl; (with_reducible repeat (first | refine qqd ?_ _ | refine qqg ?_ | refine qqe ?_ _)); refine qqo (cs := #[.int .i64 0, .int .i64 0, .int .i64 0, .int .i64 0, .int .i64 0, .int .i64 0, .int .i64 0, .int .i64 0, .int .i64 0, .int .i64 0]) ?_ 6 _ rfl; (with_reducible repeat (first | refine qqd ?_ _ | refine qqg ?_ | refine qqe ?_ _)); refine qqo (cs := #[.int .i64 0, .int .i64 0, .int .i64 0, .int .i64 0, .int .i64 0, .int .i64 0, .int .i64 0, .int .i64 0, .int .i64 0, .int .i64 0]) ?_ 5 _ rfl; (with_reducible repeat (first | refine qqd ?_ _ | refine qqg ?_ | refine qqe ?_ _)); refine qqo (cs := #[.int .i64 0, .int .i64 0, .int .i64 0, .int .i64 0, .int .i64 0, .int .i64 0, .int .i64 0, .int .i64 0, .int .i64 0, .int .i64 0]) ?_ 4 _ rfl; (with_reducible repeat (first | refine qqd ?_ _ | refine qqg ?_ | refine qqe ?_ _)); refine qqo (cs := #[.int .i64 0, .int .i64 0, .int .i64 0, .int .i64 0, .int .i64 0, .int .i64 0, .int .i64 0, .int .i64 0, .int .i64 0, .int .i64 0]) ?_ 3 _ rfl; (with_reducible repeat (first | refine qqd ?_ _ | refine qqg ?_ | refine qqe ?_ _)); refine qqo (cs := #[.int .i64 0, .int .i64 0, .int .i64 0, .int .i64 0, .int .i64 0, .int .i64 0, .int .i64 0, .int .i64 0, .int .i64 0, .int .i64 0]) ?_ 2 _ rfl; (with_reducible repeat (first | refine qqd ?_ _ | refine qqg ?_ | refine qqe ?_ _)); refine qqo (cs := #[.int .i64 0, .int .i64 0, .int .i64 0, .int .i64 0, .int .i64 0, .int .i64 0, .int .i64 0, .int .i64 0, .int .i64 0, .int .i64 0]) ?_ 1 _ rfl; (with_reducible repeat (first | refine qqd ?_ _ | refine qqg ?_ | refine qqe ?_ _)); refine qqo (cs := #[.int .i64 0, .int .i64 0, .int .i64 0, .int .i64 0, .int .i64 0, .int .i64 0, .int .i64 0, .int .i64 0, .int .i64 0, .int .i64 0]) ?_ 0 _ rfl; (with_reducible repeat (first | refine qqd ?_ _ | refine qqg ?_ | refine qqe ?_ _)); exact BK284.out) Tryd.underlying29 rfl (by kernel_rfl)) rfl ?_
  exact ⟨by first | rfl | (simp [qqq, qqp] <;> rfl) | (simp [*, qqq, qqp] <;> rfl), by repeat (first | (with_reducible first | exact HB.out | apply qqc | apply qqa | apply qqb | refine qqf ?_ GE284.out) | exact HB.out)⟩
end Go.Proofs.YtpaoofkahhhjaaaDoor.All
