/- Contracts of Go functions that this seat comes to, each with a plain function that tells its answers; conditions: those that each contract names. Written by a program of this session (wip/print) over the print words. -/
import Derived.Test.YtpaoofkahhhjaaaDoorQ3Allx0
import Derived.Test.YtpaoofkahhhjaaaDoorQ3Allx11
import Derived.Test.YtpaoofkahhhjaaaDoorQ3Allx16
import Derived.Test.YtpaoofkahhhjaaaDoorQ3Allx17
namespace Go.Proofs.YtpaoofkahhhjaaaDoor.All
open Go.RowKit Go.Proofs.YtpaoofkahhhjaaaDoorW.PrintWords Go.Proofs.YtpaoofkahhhjaaaDoorW.PrintLast Go.Proofs.YtpaoofkahhhjaaaDoorW.PrintMore
attribute [local go_sem] max2_int min2_int max_two min_two max_three min_three max_four min_four
set_option linter.unusedVariables false
set_option linter.unusedSimpArgs false
def wayfinderref05_Get.j0 : Nat → List Int → Int → Int → Int → Int → Int → Int → Int → Int → Int → Int → Int → Int → Int → Int → Int → Int → Int → Int → Int → Int → Int → Int → Option (Int × Int × Int × Int × Int × Int × Int × Int × Int × Int × Int)
 | 0, _, _, _, _, _, _, _, _, _, _, _, _, _, _, _, _, _, _, _, _, _, _, _ => none
 | k + 1, x0, x6, x9, x336000, x336001, x336002, x336003, x336004, x336005, x336006, x336007, x336008, x336009, x349000, x349001, x349002, x349003, x349004, x349005, x349006, x349007, x349008, x349009 => if (x0.length : Int) < x9 then (some (x336000, x336001, x336002, x336003, x336004, x336005, x336006, x336007, x336008, x336009, 3)) else (if (x0.length : Int) > x9 then (some (x336000, x336001, x336002, x336003, x336004, x336005, x336006, x336007, x336008, x336009, 2)) else (if x349000 = 2 then (if 0 ≤ x6 then (if x6 ≤ (x0.length : Int) then ((wayfinderref04_Get.f k (x0.drop (x6 : Int).toNat)).bind fun Qo => (if Qo.2.2.2.2.2.2 = 0 then ((wayfinderref05_May.f k x349000 x349001 x349002 x349003 Qo.1 Qo.2.1 Qo.2.2.1 Qo.2.2.2.1 Qo.2.2.2.2.1 Qo.2.2.2.2.2.1).bind fun t358 => (if t358 = true then (some (x349000, x349001, x349002, x349003, Qo.1, Qo.2.1, Qo.2.2.1, Qo.2.2.2.1, Qo.2.2.2.2.1, Qo.2.2.2.2.2.1, 0)) else (some (x336000, x336001, x336002, x336003, x336004, x336005, x336006, x336007, x336008, x336009, 2)))) else (some (x336000, x336001, x336002, x336003, x336004, x336005, x336006, x336007, x336008, x336009, 2)))) else (none)) else (none)) else ((wayfinderref05_May.f k x349000 x349001 x349002 x349003 x349004 x349005 x349006 x349007 x349008 x349009).bind fun t359 => (if t359 = true then (some (x349000, x349001, x349002, x349003, x349004, x349005, x349006, x349007, x349008, x349009, 0)) else (some (x336000, x336001, x336002, x336003, x336004, x336005, x336006, x336007, x336008, x336009, 2))))))
def wayfinderref05_Get.f (k : Nat) (l0 : List Int) : Option (Int × Int × Int × Int × Int × Int × Int × Int × Int × Int × Int) := (wayfinderref02_GetAll.f k l0 (([1, 3, 3, 2] : List Int))).bind fun Q7 => (if Q7.2.2 = 0 then (if 0 < (Q7.1.length : Int) then (if 1 < (Q7.1.length : Int) then (if 2 < (Q7.1.length : Int) then (if 3 < (Q7.1.length : Int) then (if (rd Q7.1 0) = 2 then (wayfinderref05_Get.j0 k l0 Q7.2.1 (wrap64 (Q7.2.1 + 9)) 0 0 0 0 0 0 0 0 0 0 (rd Q7.1 0) (rd Q7.1 1) (rd Q7.1 2) (rd Q7.1 3) 0 0 0 0 0 0) else (wayfinderref05_Get.j0 k l0 Q7.2.1 Q7.2.1 0 0 0 0 0 0 0 0 0 0 (rd Q7.1 0) (rd Q7.1 1) (rd Q7.1 2) (rd Q7.1 3) 0 0 0 0 0 0)) else (none)) else (none)) else (none)) else (none)) else (some (0, 0, 0, 0, 0, 0, 0, 0, 0, 0, Q7.2.2)))
theorem wayfinderref05_Get.mono_l : ∀ k, (∀ y0 y1 y2 y3 y4 y5 y6 y7 y8 y9 y10 y11 y12 y13 y14 y15 y16 y17 y18 y19 y20 y21 y22, LeO (wayfinderref05_Get.j0 k y0 y1 y2 y3 y4 y5 y6 y7 y8 y9 y10 y11 y12 y13 y14 y15 y16 y17 y18 y19 y20 y21 y22) (wayfinderref05_Get.j0 (k + 1) y0 y1 y2 y3 y4 y5 y6 y7 y8 y9 y10 y11 y12 y13 y14 y15 y16 y17 y18 y19 y20 y21 y22))
 | 0 => fun _ _ _ _ _ _ _ _ _ _ _ _ _ _ _ _ _ _ _ _ _ _ _ r h => by simp [wayfinderref05_Get.j0] at h
 | k + 1 => by
  have ih0 := wayfinderref05_Get.mono_l k
  ·intro y0 y1 y2 y3 y4 y5 y6 y7 y8 y9 y10 y11 y12 y13 y14 y15 y16 y17 y18 y19 y20 y21 y22
   unfold wayfinderref05_Get.j0
   repeat' first
   | (with_reducible exact ih0 _ _ _ _ _ _ _ _ _ _ _ _ _ _ _ _ _ _ _ _ _ _ _)
   | (with_reducible exact wayfinderref02_GetAll.mono _ _ _)
   | (with_reducible exact wayfinderref04_Get.mono _ _)
   | (with_reducible exact wayfinderref05_May.mono _ _ _ _ _ _ _ _ _ _ _)
   | (with_reducible exact LeO.refl _)
   | (with_reducible exact LeO.none _)
   | (with_reducible refine LeO.ite ?_ ?_)
   | (with_reducible refine LeO.bind ?_ (fun _ => ?_))
   | exact ih0 _ _ _ _ _ _ _ _ _ _ _ _ _ _ _ _ _ _ _ _ _ _ _
   | exact wayfinderref02_GetAll.mono _ _ _
   | exact wayfinderref04_Get.mono _ _
   | exact wayfinderref05_May.mono _ _ _ _ _ _ _ _ _ _ _
   | exact LeO.none _
   | refine LeO.ite ?_ ?_
   | refine LeO.bind ?_ (fun _ => ?_)
theorem wayfinderref05_Get.mono : ∀ a0 k, LeO (wayfinderref05_Get.f k a0) (wayfinderref05_Get.f (k + 1) a0) := by
 intro a0 k
 have ih0 := wayfinderref05_Get.mono_l k
 unfold wayfinderref05_Get.f
 repeat' first
   | (with_reducible exact ih0 _ _ _ _ _ _ _ _ _ _ _ _ _ _ _ _ _ _ _ _ _ _ _)
   | (with_reducible exact wayfinderref02_GetAll.mono _ _ _)
   | (with_reducible exact wayfinderref04_Get.mono _ _)
   | (with_reducible exact wayfinderref05_May.mono _ _ _ _ _ _ _ _ _ _ _)
   | (with_reducible exact LeO.refl _)
   | (with_reducible exact LeO.none _)
   | (with_reducible refine LeO.ite ?_ ?_)
   | (with_reducible refine LeO.bind ?_ (fun _ => ?_))
   | exact ih0 _ _ _ _ _ _ _ _ _ _ _ _ _ _ _ _ _ _ _ _ _ _ _
   | exact wayfinderref02_GetAll.mono _ _ _
   | exact wayfinderref04_Get.mono _ _
   | exact wayfinderref05_May.mono _ _ _ _ _ _ _ _ _ _ _
   | exact LeO.none _
   | refine LeO.ite ?_ ?_
   | refine LeO.bind ?_ (fun _ => ?_)
def wayfinderref05_Get.T5 : Bool × List (List Nat × List Nat) := (true, [([], []), ([0], [0]), ([1], [1]), ([], []), ([3], [3]), ([4], [4]), ([], []), ([6], [6]), ([7], [7]), ([], []), ([9], [9]), ([10], [10]), ([2, 5, 8, 11], [2, 5, 8, 11]), ([], []), ([13, 12, 0, 1, 2, 3, 4, 5, 6, 7, 8, 9, 10, 11, 12, 13], [12, 13])])
def wayfinderref05_Get.B5 : List Nat := [0, 1, 3, 0, 8, 24, 0, 64, 192, 0, 512, 1536, 4095, 0, 16383]
theorem wayfinderref05_Get.tab5 : rtab .any (opsOf Tryd.f29 5) = wayfinderref05_Get.T5 := by kernel_rfl
theorem wayfinderref05_Get.bits5 : waitsOk wayfinderref05_Get.T5.2 wayfinderref05_Get.B5 = true := by kernel_rfl
set_option maxHeartbeats 8000000 in
set_option maxRecDepth 100000 in
theorem wayfinderref05_Get.calls (k : Nat) (A0 : Option Addr) (c0 : Nat) (l0 : List Int) (r1 : Int) (r2 : Int) (r3 : Int) (r4 : Int) (r5 : Int) (r6 : Int) (r7 : Int) (r8 : Int) (r9 : Int) (r10 : Int) (r11 : Int) (w : World) (hr0 : Kd.C (Kd.int .u8) w A0 l0.length l0) (hc0 : l0.length ≤ c0) (h : wayfinderref05_Get.f k l0 = some (r1, r2, r3, r4, r5, r6, r7, r8, r9, r10, r11)) :
  Calls Tryd.prog 29 #[.slice A0 l0.length c0] w fun e w' => e = .returned (.tuple #[.agg #[.int .i64 r1, .int .i64 r2, .int .i64 r3, .int .i64 r4, .int .i64 r5, .int .i64 r6, .int .i64 r7, .int .i64 r8, .int .i64 r9, .int .i64 r10], .int .i64 r11]) ∧ Below w.heap.size w w' := by
 have hu29 := Tryd.underlying29
 have hu27 := Tryd.underlying27
 have HR0 := Aside0.mk hr0
 have HC0 := Aside0.mk hc0
 clear hr0 hc0
 have HB := Aside0.mk (Below.refl w.heap.size w)
 have H : ((wayfinderref02_GetAll.f k l0 (([1, 3, 3, 2] : List Int))).bind fun Q7 => (if Q7.2.2 = 0 then (if 0 < (Q7.1.length : Int) then (if 1 < (Q7.1.length : Int) then (if 2 < (Q7.1.length : Int) then (if 3 < (Q7.1.length : Int) then (if (rd Q7.1 0) = 2 then (wayfinderref05_Get.j0 k l0 Q7.2.1 (wrap64 (Q7.2.1 + 9)) 0 0 0 0 0 0 0 0 0 0 (rd Q7.1 0) (rd Q7.1 1) (rd Q7.1 2) (rd Q7.1 3) 0 0 0 0 0 0) else (wayfinderref05_Get.j0 k l0 Q7.2.1 Q7.2.1 0 0 0 0 0 0 0 0 0 0 (rd Q7.1 0) (rd Q7.1 1) (rd Q7.1 2) (rd Q7.1 3) 0 0 0 0 0 0)) else (none)) else (none)) else (none)) else (none)) else (some (0, 0, 0, 0, 0, 0, 0, 0, 0, 0, Q7.2.2)))) = some (r1, r2, r3, r4, r5, r6, r7, r8, r9, r10, r11) := h
 clear h
 obtain ⟨y336, hy336⟩ : ∃ y_ : List Int, y_ = (([1, 3, 3, 2] : List Int)) := ⟨_, rfl⟩
 replace H : ((wayfinderref02_GetAll.f k l0 y336).bind fun Q7 => (if Q7.2.2 = 0 then (if 0 < (Q7.1.length : Int) then (if 1 < (Q7.1.length : Int) then (if 2 < (Q7.1.length : Int) then (if 3 < (Q7.1.length : Int) then (if (rd Q7.1 0) = 2 then (wayfinderref05_Get.j0 k l0 Q7.2.1 (wrap64 (Q7.2.1 + 9)) 0 0 0 0 0 0 0 0 0 0 (rd Q7.1 0) (rd Q7.1 1) (rd Q7.1 2) (rd Q7.1 3) 0 0 0 0 0 0) else (wayfinderref05_Get.j0 k l0 Q7.2.1 Q7.2.1 0 0 0 0 0 0 0 0 0 0 (rd Q7.1 0) (rd Q7.1 1) (rd Q7.1 2) (rd Q7.1 3) 0 0 0 0 0 0)) else (none)) else (none)) else (none)) else (none)) else (some (0, 0, 0, 0, 0, 0, 0, 0, 0, 0, Q7.2.2)))) = some (r1, r2, r3, r4, r5, r6, r7, r8, r9, r10, r11) := by first | (rw [hy336]; with_reducible exact H) | (have H2_ := (Option.bind_some _ _).symm.trans H; rw [hy336]; with_reducible exact H2_) | (have H2_ := (Option.bind_some _ _).symm.trans H; with_reducible exact H2_) | with_reducible exact H | (rw [hy336]; exact H) | exact H
 have Ny336 := Aside0.mk hy336
 clear hy336
 replace H := Option.bind_eq_some_iff.mp H
 obtain ⟨⟨Q0, Qj, t341⟩, A20, H⟩ := H
 replace H : (if t341 = 0 then (if 0 < (Q0.length : Int) then (if 1 < (Q0.length : Int) then (if 2 < (Q0.length : Int) then (if 3 < (Q0.length : Int) then (if (rd Q0 0) = 2 then (wayfinderref05_Get.j0 k l0 Qj (wrap64 (Qj + 9)) 0 0 0 0 0 0 0 0 0 0 (rd Q0 0) (rd Q0 1) (rd Q0 2) (rd Q0 3) 0 0 0 0 0 0) else (wayfinderref05_Get.j0 k l0 Qj Qj 0 0 0 0 0 0 0 0 0 0 (rd Q0 0) (rd Q0 1) (rd Q0 2) (rd Q0 3) 0 0 0 0 0 0)) else (none)) else (none)) else (none)) else (none)) else (some (0, 0, 0, 0, 0, 0, 0, 0, 0, 0, t341))) = some (r1, r2, r3, r4, r5, r6, r7, r8, r9, r10, r11) := H
 have A2 := Aside0.mk A20
 clear A20
 by_cases c3 : t341 = 0
 ·rw [if_pos c3] at H
  have c3b0 : (t341 == 0) = true := beq_iff_eq.mpr c3
  have c3b1 : (t341 != 0) = false := bne_eq_false_iff_eq.mpr c3
  clear c3
  by_cases c4 : 0 < (Q0.length : Int)
  ·rw [if_pos c4] at H
   have c4b0 : decide (0 < (Q0.length : Int)) = true := decide_eq_true c4
   have c4b1 : decide (0 < Q0.length) = true := decide_eq_true (by omega)
   clear c4
   by_cases c5 : 1 < (Q0.length : Int)
   ·rw [if_pos c5] at H
    have c5b0 : decide (1 < (Q0.length : Int)) = true := decide_eq_true c5
    have c5b1 : decide (1 < Q0.length) = true := decide_eq_true (by omega)
    clear c5
    by_cases c6 : 2 < (Q0.length : Int)
    ·rw [if_pos c6] at H
     have c6b0 : decide (2 < (Q0.length : Int)) = true := decide_eq_true c6
     have c6b1 : decide (2 < Q0.length) = true := decide_eq_true (by omega)
     clear c6
     by_cases c7 : 3 < (Q0.length : Int)
     ·rw [if_pos c7] at H
      have c7b0 : decide (3 < (Q0.length : Int)) = true := decide_eq_true c7
      have c7b1 : decide (3 < Q0.length) = true := decide_eq_true (by omega)
      clear c7
      have HC8 := Aside0.mk H
      clear H
      go_enter Tryd.func29, Tryd.ntmps29
      try go_wp2_with (first | ((with_reducible refine qqr (N := 2) rfl ?_); refine qqw ?hg (N := 2) ?hd (cs := #[.int .i64 0, .int .i64 0, .int .i64 0, .int .i64 0, .int .i64 0, .int .i64 0, .int .i64 0, .int .i64 0, .int .i64 0, .int .i64 0]) (t := 29) ?hr ?_; (case hd => rfl); (case hg => rfl); (case hr => first | (go_simp; done) | (go_simp; rfl)); intro Qn hg w9 hbox hb; have n0_ := bst HB hb; have n1_ := Aside0.mk (hbox); have n2_ := szl HB hg; have n3_ := szl HB hg; clear HB; have HB := n0_; have Q3 := n1_; have GW334 := n2_; have GE334 := n3_; clear n0_ n1_ n2_ n3_; clear hb hbox hg) | ((with_reducible refine qqr (N := 4) rfl ?_); refine qqw ?hg (N := 4) ?hd (cs := #[.int .i64 0, .int .i64 0, .int .i64 0, .int .i64 0, .int .i64 0, .int .i64 0, .int .i64 0, .int .i64 0, .int .i64 0, .int .i64 0]) (t := 29) ?hr ?_; (case hd => rfl); (case hg => rfl); (case hr => first | (go_simp; done) | (go_simp; rfl)); intro X0 hg w10 hbox hb; have n0_ := bbl Q3 hb; have n1_ := bst HB hb; have n2_ := Aside0.mk (hbox); have n3_ := szl HB hg; have n4_ := szl HB hg; have n5_ := nel Q3 hg; have n6_ := ner Q3 hg; clear Q3; clear HB; have Q3 := n0_; have HB := n1_; have Q6 := n2_; have GW335 := n3_; have GE335 := n4_; have Q5 := n5_; have Qf := n6_; clear n0_ n1_ n2_ n3_ n4_ n5_ n6_; clear hb hbox hg; have hnb11 := Qf.out; have hnc11 := Q5.out; obtain ⟨hcz12_0, hcz12_1, hcz12_2, hcz12_3, hcz12_4, hcz12_5, hcz12_6, hcz12_7, hcz12_8, hcz12_9⟩ := qqz Q6.out; obtain ⟨hfz12_0, hfz12_1, hfz12_2, hfz12_3, hfz12_4, hfz12_5, hfz12_6, hfz12_7, hfz12_8, hfz12_9⟩ := qqx Q6.out) | ((with_reducible refine qqr (N := 16) rfl ?_); refine Kd.R_lit (Kd.int .i64) _ 3 ?hg (N := 16) ?hd (xs := ([1, 3, 3, 2] : List Int)) (inner := [.int .i64 1, .int .i64 3, .int .i64 3, .int .i64 2]) (ok := fun _ => True) (okp := fun _ => True) ?hr ?hp (fun _ hk => hk) trivial (Below.refl _ _) (Nat.le_refl _) (by simp) ?_; (case hd => rfl); (case hg => rfl); (case hr => first | (go_simp; done) | (go_simp; rfl)); (case hp => exact (Reps.one (show Kd.M (Kd.int .i64) _ _ _ 1 [.int .i64 1] from rfl) (Reps.one (show Kd.M (Kd.int .i64) _ _ _ 3 [.int .i64 3] from rfl) (Reps.one (show Kd.M (Kd.int .i64) _ _ _ 3 [.int .i64 3] from rfl) (Reps.one (show Kd.M (Kd.int .i64) _ _ _ 2 [.int .i64 2] from rfl) (Reps.none _ _)))))); intro v337 w13 ho14 hb hg_ hnew_; clear hg_ hnew_; (first | rw [← Ny336.out] at ho14 | (simp only [Int.reduceToNat] at ho14; rw [← Ny336.out] at ho14)); have Qh := Aside0.mk (Kd.R_lower ho14 (qqt (by repeat (first | (with_reducible first | exact HB.out | apply qqc | apply qqa | apply qqb | refine qqg ?_ GE334.out | refine qqg ?_ GE335.out) | exact HB.out)))); replace Q3 := Aside0.mk (blk_below (g := Qn) (o := .cells #[.int .i64 0, .int .i64 0, .int .i64 0, .int .i64 0, .int .i64 0, .int .i64 0, .int .i64 0, .int .i64 0, .int .i64 0, .int .i64 0] 29 (0, 0)) (by (with_reducible repeat (first | refine qqd ?_ _ | refine qqf ?_ | refine qqe ?_ _)); refine qql ?_ Q5.out _; (with_reducible repeat (first | refine qqd ?_ _ | refine qqf ?_ | refine qqe ?_ _)); refine qql ?_ Q5.out _; (with_reducible repeat (first | refine qqd ?_ _ | refine qqf ?_ | refine qqe ?_ _)); refine qql ?_ Q5.out _; (with_reducible repeat (first | refine qqd ?_ _ | refine qqf ?_ | refine qqe ?_ _)); refine qql ?_ Q5.out _; (with_reducible repeat (first | refine qqd ?_ _ | refine qqf ?_ | refine qqe ?_ _)); refine qql ?_ Q5.out _; (with_reducible repeat (first | refine qqd ?_ _ | refine qqf ?_ | refine qqe ?_ _)); refine qql ?_ Q5.out _; (with_reducible repeat (first | refine qqd ?_ _ | refine qqf ?_ | refine qqe ?_ _)); refine qql ?_ Q5.out _; (with_reducible repeat (first | refine qqd ?_ _ | refine qqf ?_ | refine qqe ?_ _)); refine qql ?_ Q5.out _; (with_reducible repeat (first | refine qqd ?_ _ | refine qqf ?_ | refine qqe ?_ _)); refine qql ?_ Q5.out _; (with_reducible repeat (first | refine qqd ?_ _ | refine qqf ?_ | refine qqe ?_ _)); refine qql ?_ Q5.out _; (with_reducible repeat (first | refine qqd ?_ _ | refine qqf ?_ | refine qqe ?_ _)); exact Q3.out) hb); replace Q6 := Aside0.mk (blk_below (g := X0) (o := .cells #[.int .i64 0, .int .i64 0, .int .i64 0, .int .i64 0, .int .i64 0, .int .i64 0, .int .i64 0, .int .i64 0, .int .i64 0, .int .i64 0] 29 (0, 0)) (by exact bput10 Q6.out) hb); replace HB := bst HB hb; clear hb ho14; obtain ⟨Ao15, co15, eo15⟩ := Kd.R_slice Qh.out; subst eo15) | ((with_reducible refine qqo (f := 40) rfl ?_); refine goesL_ (some 17) rfl rfl Tryd.func40 (by kernel_rfl) rfl #[.slice A0 l0.length c0, .slice Ao15 y336.length co15] rfl (by (try simp only [List.map_toArray, List.map_cons, List.map_nil]); first | done | rfl | (simp only [List.length_drop, List.length_take]; rfl)) ?_; (with_reducible refine (wayfinderref02_GetAll.calls k _ _ l0 _ _ y336 Q0 Qj t341 _ ?side1 ?side2 ?side3 ?side4 A2.out).mono ?_); (case side1 => repeat (first | exact (Kd.C_below HR0.out HB.out) | (with_reducible refine Kd.C_alloc ?_ _) | (with_reducible refine Kd.C_drewN ?_ _) | (with_reducible refine Kd.C_drew ?_))); (case side2 => exact HC0.out); (case side3 => repeat (first | exact (Kd.R_reads' Qh.out).2.2 | (with_reducible refine Kd.C_alloc ?_ _) | (with_reducible refine Kd.C_drewN ?_ _) | (with_reducible refine Kd.C_drew ?_))); (case side4 => exact (Kd.R_reads' Qh.out).2.1); rintro e w16 ⟨v342, rfl, ho0, hb⟩; refine ⟨_, rfl, ?_⟩; have n0_ := Aside0.mk (Kd.R_elder' (by (with_reducible repeat (first | apply Kd.R_alloc | apply Kd.R_drewN | apply Kd.R_drew)); exact Qh.out) (Kd.R_base ho0) hb); have n1_ := Aside0.mk (Kd.R_lower (Kd.R_new' ho0 (Kd.R_lt (by (with_reducible repeat (first | apply Kd.R_alloc | apply Kd.R_drewN | apply Kd.R_drew)); exact Qh.out))) (qqt (by repeat (first | (with_reducible first | exact HB.out | apply qqc | apply qqa | apply qqb | refine qqg ?_ GE334.out | refine qqg ?_ GE335.out) | exact HB.out)))); have n2_ := bbl Q3 hb; have n3_ := bbl Q6 hb; have n4_ := bst HB hb; clear Qh; clear Q3; clear Q6; clear HB; have Qh := n0_; have Qp := n1_; have Q3 := n2_; have Q6 := n3_; have HB := n4_; clear n0_ n1_ n2_ n3_ n4_; (try clear hb); (try clear hk); (try clear ho0)))
      replace Qh := Aside0.mk (Kd.R_drew Qh.out)
      replace Qp := Aside0.mk (Kd.R_drew Qp.out)
      replace Q3 := Aside0.mk (qqf Q3.out)
      replace Q6 := Aside0.mk (qqf Q6.out)
      replace HB := Aside0.mk (qqb HB.out)
      obtain ⟨Ao18, co18, eo18⟩ := Kd.R_slice Qp.out
      (first | subst eo18 | (injection eo18 with f1_ f2_ f3_; have f4_ := f1_.symm; have f5_ := f3_.symm; clear f1_ f2_ f3_; subst f4_; subst f5_))
      have p344 : 0 ≤ (0 : Int) := (by omega)
      have q344 : 0 < (Q0.length : Int) := of_decide_eq_true (by first | (with_reducible assumption) | assumption)
      obtain ⟨Qv, e344, Qw⟩ := Kd.at_int (Kd.R_reads' Qp.out).2.2 0 p344 q344
      cases e344
      have qi344 : (0 < Q0.length) = True := eq_true (by omega)
      (try rw [show ((0 : Int)).toNat = 0 from rfl] at Qw)
      (try rw [Addr.add_zero'] at Qw)
      replace p344 := eq_true p344
      replace q344 := eq_true q344
      have p345 : 0 ≤ (1 : Int) := (by omega)
      have q345 : 1 < (Q0.length : Int) := of_decide_eq_true (by first | (with_reducible assumption) | assumption)
      obtain ⟨ad345, e345, Qx⟩ := Kd.at_int (Kd.R_reads' Qp.out).2.2 1 p345 q345
      obtain rfl : Qv = ad345 := (by injection e345)
      (try simp only [show (1 : Int).toNat = 1 from rfl, Nat.reduceMul, Nat.reduceEqDiff, Go.Addr.add, ↓reduceIte] at Qx)
      have qi345 : (1 < Q0.length) = True := eq_true (by omega)
      (try rw [show ((1 : Int)).toNat = 1 from rfl] at Qx)
      replace p345 := eq_true p345
      replace q345 := eq_true q345
      have p346 : 0 ≤ (2 : Int) := (by omega)
      have q346 : 2 < (Q0.length : Int) := of_decide_eq_true (by first | (with_reducible assumption) | assumption)
      obtain ⟨ad346, e346, Qy⟩ := Kd.at_int (Kd.R_reads' Qp.out).2.2 2 p346 q346
      obtain rfl : Qv = ad346 := (by injection e346)
      (try simp only [show (2 : Int).toNat = 2 from rfl, Nat.reduceMul, Nat.reduceEqDiff, Go.Addr.add, ↓reduceIte] at Qy)
      have qi346 : (2 < Q0.length) = True := eq_true (by omega)
      (try rw [show ((2 : Int)).toNat = 2 from rfl] at Qy)
      replace p346 := eq_true p346
      replace q346 := eq_true q346
      have p347 : 0 ≤ (3 : Int) := (by omega)
      have q347 : 3 < (Q0.length : Int) := of_decide_eq_true (by first | (with_reducible assumption) | assumption)
      obtain ⟨ad347, e347, Qz⟩ := Kd.at_int (Kd.R_reads' Qp.out).2.2 3 p347 q347
      obtain rfl : Qv = ad347 := (by injection e347)
      (try simp only [show (3 : Int).toNat = 3 from rfl, Nat.reduceMul, Nat.reduceEqDiff, Go.Addr.add, ↓reduceIte] at Qz)
      have qi347 : (3 < Q0.length) = True := eq_true (by omega)
      (try rw [show ((3 : Int)).toNat = 3 from rfl] at Qz)
      replace p347 := eq_true p347
      replace q347 := eq_true q347
      refine start_ (n := 15) (S := fun w' => w'.cell? Qv = some (.int .i64 (rd Q0 0)) ∧ w'.cell? ⟨Qv.block, Qv.off + 1, none⟩ = some (.int .i64 (rd Q0 1)) ∧ w'.cell? ⟨Qv.block, Qv.off + 2, none⟩ = some (.int .i64 (rd Q0 2)) ∧ w'.cell? ⟨Qv.block, Qv.off + 3, none⟩ = some (.int .i64 (rd Q0 3))) (ds := []) #[false, false, false, false, false, false, false, false, false, false, false, false, false, false, false] (by kernel_rfl) rfl rfl ⟨Qw, Qx, Qy, Qz⟩ (fun hHeld => ?_); refine with_tabW wayfinderref05_Get.tab5 wayfinderref05_Get.bits5 (fun HT_ HW_ => ?_)
      generalize w16.drew = w17 at Qh Qp Q3 Q6 HB Qw Qx Qy Qz hHeld ⊢
      refine qqy (i := 0) (N := some 25) (v := ?_) (a' := ?_) #[true, false, false, false, false, false, false, false, false, false, false, false, false, false, false] rfl rfl (qqp HT_.out (by kernel_rfl)) (fun _ _ _ h => h) (Or.inl ⟨by rfl, ?_⟩) ?_ ?_
      rotate_left
      ·intro w'
       go_simp
       with_reducible rfl
      rotate_left
      ·simp only [Act.put, qsA, qsB, qsC, qqs, qqu]
       rfl
      refine qqy (i := 1) (N := some 26) (v := ?_) (a' := ?_) #[true, true, false, false, false, false, false, false, false, false, false, false, false, false, false] rfl rfl (qqp HT_.out (by kernel_rfl)) (fun _ _ _ h => h) (Or.inl ⟨by rfl, ?_⟩) ?_ ?_
      rotate_left
      ·intro w'
       go_simp
       with_reducible rfl
      rotate_left
      ·simp only [Act.put, qsA, qsB, qsC, qqs, qqu]
       rfl
      refine qqy (i := 3) (N := some 28) (v := ?_) (a' := ?_) #[true, true, false, true, false, false, false, false, false, false, false, false, false, false, false] rfl rfl (qqp HT_.out (by kernel_rfl)) (fun _ _ _ h => h) (Or.inl ⟨by rfl, ?_⟩) ?_ ?_
      rotate_left
      ·intro w'
       go_simp
       with_reducible rfl
      rotate_left
      ·simp only [Act.put, qsA, qsB, qsC, qqs, qqu]
       rfl
      refine qqy (i := 4) (N := some 29) (v := ?_) (a' := ?_) #[true, true, false, true, true, false, false, false, false, false, false, false, false, false, false] rfl rfl (qqp HT_.out (by kernel_rfl)) (fun _ _ _ h => h) (Or.inl ⟨by rfl, ?_⟩) ?_ ?_
      rotate_left
      ·intro w'
       go_simp
       with_reducible rfl
      rotate_left
      ·simp only [Act.put, qsA, qsB, qsC, qqs, qqu]
       rfl
      refine qqy (i := 6) (N := some 31) (v := ?_) (a' := ?_) #[true, true, false, true, true, false, true, false, false, false, false, false, false, false, false] rfl rfl (qqp HT_.out (by kernel_rfl)) (fun _ _ _ h => h) (Or.inl ⟨by rfl, ?_⟩) ?_ ?_
      rotate_left
      ·intro w'
       go_simp
       with_reducible rfl
      rotate_left
      ·simp only [Act.put, qsA, qsB, qsC, qqs, qqu]
       rfl
      refine qqy (i := 7) (N := some 32) (v := ?_) (a' := ?_) #[true, true, false, true, true, false, true, true, false, false, false, false, false, false, false] rfl rfl (qqp HT_.out (by kernel_rfl)) (fun _ _ _ h => h) (Or.inl ⟨by rfl, ?_⟩) ?_ ?_
      rotate_left
      ·intro w'
       go_simp
       with_reducible rfl
      rotate_left
      ·simp only [Act.put, qsA, qsB, qsC, qqs, qqu]
       rfl
      refine qqy (i := 9) (N := some 34) (v := ?_) (a' := ?_) #[true, true, false, true, true, false, true, true, false, true, false, false, false, false, false] rfl rfl (qqp HT_.out (by kernel_rfl)) (fun _ _ _ h => h) (Or.inl ⟨by rfl, ?_⟩) ?_ ?_
      rotate_left
      ·intro w'
       go_simp
       with_reducible rfl
      rotate_left
      ·simp only [Act.put, qsA, qsB, qsC, qqs, qqu]
       rfl
      refine qqy (i := 10) (N := some 35) (v := ?_) (a' := ?_) #[true, true, false, true, true, false, true, true, false, true, true, false, false, false, false] rfl rfl (qqp HT_.out (by kernel_rfl)) (fun _ _ _ h => h) (Or.inl ⟨by rfl, ?_⟩) ?_ ?_
      rotate_left
      ·intro w'
       go_simp
       with_reducible rfl
      rotate_left
      ·simp only [Act.put, qsA, qsB, qsC, qqs, qqu]
       rfl
      refine take_ (i := 2) (N := some 27) (v := ?_) (a' := ?_) #[true, true, true, true, true, false, true, true, false, true, true, false, false, false, false] rfl rfl (take_ofW HT_.out HW_.out (by kernel_rfl)) (fun _ _ _ h => h) (Or.inl ⟨by rfl, ?_⟩) hHeld ?_ ?_
      rotate_left
      ·rintro w' ⟨s0, s1, s2, s3⟩
       go_simp
       with_reducible rfl
      rotate_left
      ·simp only [Act.put, qsA, qsB, qsC, qqs, qqu]
       rfl
      refine take_ (i := 5) (N := some 30) (v := ?_) (a' := ?_) #[true, true, true, true, true, true, true, true, false, true, true, false, false, false, false] rfl rfl (take_ofW HT_.out HW_.out (by kernel_rfl)) (fun _ _ _ h => h) (Or.inl ⟨by rfl, ?_⟩) hHeld ?_ ?_
      rotate_left
      ·rintro w' ⟨s0, s1, s2, s3⟩
       go_simp
       with_reducible rfl
      rotate_left
      ·simp only [Act.put, qsA, qsB, qsC, qqs, qqu]
       rfl
      refine take_ (i := 8) (N := some 33) (v := ?_) (a' := ?_) #[true, true, true, true, true, true, true, true, true, true, true, false, false, false, false] rfl rfl (take_ofW HT_.out HW_.out (by kernel_rfl)) (fun _ _ _ h => h) (Or.inl ⟨by rfl, ?_⟩) hHeld ?_ ?_
      rotate_left
      ·rintro w' ⟨s0, s1, s2, s3⟩
       go_simp
       with_reducible rfl
      rotate_left
      ·simp only [Act.put, qsA, qsB, qsC, qqs, qqu]
       rfl
      refine take_ (i := 11) (N := some 36) (v := ?_) (a' := ?_) #[true, true, true, true, true, true, true, true, true, true, true, true, false, false, false] rfl rfl (take_ofW HT_.out HW_.out (by kernel_rfl)) (fun _ _ _ h => h) (Or.inl ⟨by rfl, ?_⟩) hHeld ?_ ?_
      rotate_left
      ·rintro w' ⟨s0, s1, s2, s3⟩
       go_simp
       with_reducible rfl
      rotate_left
      ·simp only [Act.put, qsA, qsB, qsC, qqs, qqu]
       rfl
      refine qqy (i := 12) (N := some 37) (v := ?_) (a' := ?_) #[true, true, true, true, true, true, true, true, true, true, true, true, true, false, false] rfl rfl (qqp HT_.out (by kernel_rfl)) (fun _ _ _ h => h) (Or.inl ⟨by rfl, ?_⟩) ?_ ?_
      rotate_left
      ·intro w'
       go_simp
       with_reducible rfl
      rotate_left
      ·simp only [Act.put, qsA, qsB, qsC, qqs, qqu]
       rfl
      refine one_ (i := 13) (N := some 8) #[true, true, true, true, true, true, true, true, true, true, true, true, true, true, false] rfl rfl (one_of HT_.out (by kernel_rfl)) (by decide) (fun K hK => ?_)
      refine box_step ?hg (N := 8) ?hd (cs := #[.int .i64 0, .int .i64 0, .int .i64 0, .int .i64 0, .int .i64 0, .int .i64 0, .int .i64 0, .int .i64 0, .int .i64 0, .int .i64 0]) (t := 29) ?hr ?_; (case hd => rfl); (case hg => rfl); (case hr => first | (go_simp; done) | (go_simp; rfl))
      intro Q9 hg w19 hbox hb
      have HS0_ := (hb.cell (World.block_lt_of_cell? _ _ (hHeld.1))).trans (hHeld.1)
      have HS1_ := (hb.cell (World.block_lt_of_cell? _ _ (hHeld.2.1))).trans (hHeld.2.1)
      have HS2_ := (hb.cell (World.block_lt_of_cell? _ _ (hHeld.2.2.1))).trans (hHeld.2.2.1)
      have HS3_ := (hb.cell (World.block_lt_of_cell? _ _ (hHeld.2.2.2))).trans (hHeld.2.2.2)
      have n0_ := Aside0.mk (Kd.R_below (by (with_reducible repeat (first | apply Kd.R_alloc | apply Kd.R_drewN | apply Kd.R_drew)); exact Qh.out) hb)
      have n1_ := Aside0.mk (Kd.R_below (by (with_reducible repeat (first | apply Kd.R_alloc | apply Kd.R_drewN | apply Kd.R_drew)); exact Qp.out) hb)
      have n2_ := bbl Q3 hb
      have n3_ := bbl Q6 hb
      have n4_ := bst HB hb
      have n5_ := Aside0.mk (hbox)
      have n6_ := szl HB hg
      have n7_ := szl HB hg
      have n8_ := nel Q3 hg
      have n9_ := ner Q3 hg
      have n10_ := nel Q6 hg
      have n11_ := ner Q6 hg
      clear Qh
      clear Qp
      clear Q3
      clear Q6
      clear HB
      have Qh := n0_
      have Qp := n1_
      have Q3 := n2_
      have Q6 := n3_
      have HB := n4_
      have Q4 := n5_
      have GW348 := n6_
      have GE348 := n7_
      have Q1 := n8_
      have Qa := n9_
      have Q2 := n10_
      have Qb := n11_
      clear n0_ n1_ n2_ n3_ n4_ n5_ n6_ n7_ n8_ n9_ n10_ n11_
      clear hb hbox hg
      refine hK.out _ _ ⟨HS0_, HS1_, HS2_, HS3_⟩ (fun hHeld => ?_)
      clear hK K
      refine norm_ (a' := ?_) ?_ ?_
      rotate_left
      ·show Act.put _ (some 8) _ = _
       simp only [Act.put, qsA, qsB, qsC, qqs, qqu]
       rfl
      refine one_ (i := 14) (N := none) #[true, true, true, true, true, true, true, true, true, true, true, true, true, true, true] rfl rfl (one_of HT_.out (by kernel_rfl)) (by decide) (fun K hK => ?_)
      have hs20 : w19.cell? ⟨Q9, 0, none⟩ = some (.int .i64 0) := (qqq Q4.out 0).trans rfl
      have hfs20 := qqm Q4.out 0
      have hns20_0 := Q1.out
      have hns20_1 := Q2.out
      have hms20_0 := Qa.out
      have hms20_1 := Qb.out
      have hs21 : w19.cell? ⟨Q9, 1, none⟩ = some (.int .i64 0) := (qqq Q4.out 1).trans rfl
      have hfs21 := qqm Q4.out 1
      have hns21_0 := Q1.out
      have hns21_1 := Q2.out
      have hms21_0 := Qa.out
      have hms21_1 := Qb.out
      have hs22 : w19.cell? ⟨Q9, 2, none⟩ = some (.int .i64 0) := (qqq Q4.out 2).trans rfl
      have hfs22 := qqm Q4.out 2
      have hns22_0 := Q1.out
      have hns22_1 := Q2.out
      have hms22_0 := Qa.out
      have hms22_1 := Qb.out
      have hs23 : w19.cell? ⟨Q9, 3, none⟩ = some (.int .i64 0) := (qqq Q4.out 3).trans rfl
      have hfs23 := qqm Q4.out 3
      have hns23_0 := Q1.out
      have hns23_1 := Q2.out
      have hms23_0 := Qa.out
      have hms23_1 := Qb.out
      have hs24 : w19.cell? ⟨Q9, 4, none⟩ = some (.int .i64 0) := (qqq Q4.out 4).trans rfl
      have hfs24 := qqm Q4.out 4
      have hns24_0 := Q1.out
      have hns24_1 := Q2.out
      have hms24_0 := Qa.out
      have hms24_1 := Qb.out
      have hs25 : w19.cell? ⟨Q9, 5, none⟩ = some (.int .i64 0) := (qqq Q4.out 5).trans rfl
      have hfs25 := qqm Q4.out 5
      have hns25_0 := Q1.out
      have hns25_1 := Q2.out
      have hms25_0 := Qa.out
      have hms25_1 := Qb.out
      have hs26 : w19.cell? ⟨Q9, 6, none⟩ = some (.int .i64 0) := (qqq Q4.out 6).trans rfl
      have hfs26 := qqm Q4.out 6
      have hns26_0 := Q1.out
      have hns26_1 := Q2.out
      have hms26_0 := Qa.out
      have hms26_1 := Qb.out
      have hs27 : w19.cell? ⟨Q9, 7, none⟩ = some (.int .i64 0) := (qqq Q4.out 7).trans rfl
      have hfs27 := qqm Q4.out 7
      have hns27_0 := Q1.out
      have hns27_1 := Q2.out
      have hms27_0 := Qa.out
      have hms27_1 := Qb.out
      have hs28 : w19.cell? ⟨Q9, 8, none⟩ = some (.int .i64 0) := (qqq Q4.out 8).trans rfl
      have hfs28 := qqm Q4.out 8
      have hns28_0 := Q1.out
      have hns28_1 := Q2.out
      have hms28_0 := Qa.out
      have hms28_1 := Qb.out
      have hs29 : w19.cell? ⟨Q9, 9, none⟩ = some (.int .i64 0) := (qqq Q4.out 9).trans rfl
      have hfs29 := qqm Q4.out 9
      have hns29_0 := Q1.out
      have hns29_1 := Q2.out
      have hms29_0 := Qa.out
      have hms29_1 := Qb.out
      refine skip_ (w1 := ?_) (by rfl) rfl ?_ ?_
      rotate_left
      ·go_simp
       rfl
      have q0_ := Kd.own_blk (Kd.R_ne Qp.out Q4.out (by decide))
      refine hK.out _ _ ⟨((qqh (p := ⟨Q9, _, none⟩) (by first | exact q0_ | exact nbE q0_) _).trans (((qqh (p := ⟨Q9, _, none⟩) (by first | exact q0_ | exact nbE q0_) _).trans (((qqh (p := ⟨Q9, _, none⟩) (by first | exact q0_ | exact nbE q0_) _).trans (((qqh (p := ⟨Q9, _, none⟩) (by first | exact q0_ | exact nbE q0_) _).trans (((qqh (p := ⟨Q9, _, none⟩) (by first | exact q0_ | exact nbE q0_) _).trans (((qqh (p := ⟨Q9, _, none⟩) (by first | exact q0_ | exact nbE q0_) _).trans (((qqh (p := ⟨Q9, _, none⟩) (by first | exact q0_ | exact nbE q0_) _).trans (((qqh (p := ⟨Q9, _, none⟩) (by first | exact q0_ | exact nbE q0_) _).trans (((qqh (p := ⟨Q9, _, none⟩) (by first | exact q0_ | exact nbE q0_) _).trans (((qqh (p := ⟨Q9, _, none⟩) (by first | exact q0_ | exact nbE q0_) _).trans (hHeld.1)))))))))))))))))))), ((qqh (p := ⟨Q9, _, none⟩) (by first | exact q0_ | exact nbE q0_) _).trans (((qqh (p := ⟨Q9, _, none⟩) (by first | exact q0_ | exact nbE q0_) _).trans (((qqh (p := ⟨Q9, _, none⟩) (by first | exact q0_ | exact nbE q0_) _).trans (((qqh (p := ⟨Q9, _, none⟩) (by first | exact q0_ | exact nbE q0_) _).trans (((qqh (p := ⟨Q9, _, none⟩) (by first | exact q0_ | exact nbE q0_) _).trans (((qqh (p := ⟨Q9, _, none⟩) (by first | exact q0_ | exact nbE q0_) _).trans (((qqh (p := ⟨Q9, _, none⟩) (by first | exact q0_ | exact nbE q0_) _).trans (((qqh (p := ⟨Q9, _, none⟩) (by first | exact q0_ | exact nbE q0_) _).trans (((qqh (p := ⟨Q9, _, none⟩) (by first | exact q0_ | exact nbE q0_) _).trans (((qqh (p := ⟨Q9, _, none⟩) (by first | exact q0_ | exact nbE q0_) _).trans (hHeld.2.1)))))))))))))))))))), ((qqh (p := ⟨Q9, _, none⟩) (by first | exact q0_ | exact nbE q0_) _).trans (((qqh (p := ⟨Q9, _, none⟩) (by first | exact q0_ | exact nbE q0_) _).trans (((qqh (p := ⟨Q9, _, none⟩) (by first | exact q0_ | exact nbE q0_) _).trans (((qqh (p := ⟨Q9, _, none⟩) (by first | exact q0_ | exact nbE q0_) _).trans (((qqh (p := ⟨Q9, _, none⟩) (by first | exact q0_ | exact nbE q0_) _).trans (((qqh (p := ⟨Q9, _, none⟩) (by first | exact q0_ | exact nbE q0_) _).trans (((qqh (p := ⟨Q9, _, none⟩) (by first | exact q0_ | exact nbE q0_) _).trans (((qqh (p := ⟨Q9, _, none⟩) (by first | exact q0_ | exact nbE q0_) _).trans (((qqh (p := ⟨Q9, _, none⟩) (by first | exact q0_ | exact nbE q0_) _).trans (((qqh (p := ⟨Q9, _, none⟩) (by first | exact q0_ | exact nbE q0_) _).trans (hHeld.2.2.1)))))))))))))))))))), ((qqh (p := ⟨Q9, _, none⟩) (by first | exact q0_ | exact nbE q0_) _).trans (((qqh (p := ⟨Q9, _, none⟩) (by first | exact q0_ | exact nbE q0_) _).trans (((qqh (p := ⟨Q9, _, none⟩) (by first | exact q0_ | exact nbE q0_) _).trans (((qqh (p := ⟨Q9, _, none⟩) (by first | exact q0_ | exact nbE q0_) _).trans (((qqh (p := ⟨Q9, _, none⟩) (by first | exact q0_ | exact nbE q0_) _).trans (((qqh (p := ⟨Q9, _, none⟩) (by first | exact q0_ | exact nbE q0_) _).trans (((qqh (p := ⟨Q9, _, none⟩) (by first | exact q0_ | exact nbE q0_) _).trans (((qqh (p := ⟨Q9, _, none⟩) (by first | exact q0_ | exact nbE q0_) _).trans (((qqh (p := ⟨Q9, _, none⟩) (by first | exact q0_ | exact nbE q0_) _).trans (((qqh (p := ⟨Q9, _, none⟩) (by first | exact q0_ | exact nbE q0_) _).trans (hHeld.2.2.2))))))))))))))))))))⟩ (fun hHeld => ?_)
      clear hK K
      refine done_ (done_of HT_.out (by kernel_rfl)) ?_
      have hnb30 := Qa.out
      have hnc30 := Q1.out
      have hnb31 := Qb.out
      have hnc31 := Q2.out
      obtain ⟨hcz32_0, hcz32_1, hcz32_2, hcz32_3, hcz32_4, hcz32_5, hcz32_6, hcz32_7, hcz32_8, hcz32_9⟩ := qqz Q4.out
      obtain ⟨hfz32_0, hfz32_1, hfz32_2, hfz32_3, hfz32_4, hfz32_5, hfz32_6, hfz32_7, hfz32_8, hfz32_9⟩ := qqx Q4.out
      go_upto_if 41 with (fail)
      go_cut [9] (fun v9 wc => ∃ (kq : Nat) (x9_7 : Int), v9 = .int .i64 x9_7 ∧ Aside0 (wayfinderref05_Get.j0 kq l0 Qj x9_7 0 0 0 0 0 0 0 0 0 0 (rd Q0 0) (rd Q0 1) (rd Q0 2) (rd Q0 3) 0 0 0 0 0 0 = some (r1, r2, r3, r4, r5, r6, r7, r8, r9, r10, r11)) ∧ Aside0 (kq ≤ k) ∧ Aside0 (wc.heap[Qn]? = some (.cells #[.int .i64 0, .int .i64 0, .int .i64 0, .int .i64 0, .int .i64 0, .int .i64 0, .int .i64 0, .int .i64 0, .int .i64 0, .int .i64 0] 29 (0, 0))) ∧ Aside0 (wc.heap[X0]? = some (.cells #[.int .i64 0, .int .i64 0, .int .i64 0, .int .i64 0, .int .i64 0, .int .i64 0, .int .i64 0, .int .i64 0, .int .i64 0, .int .i64 0] 29 (0, 0))) ∧ Aside0 (wc.heap[Q9]? = some (.cells #[.int .i64 (rd Q0 0), .int .i64 (rd Q0 1), .int .i64 (rd Q0 2), .int .i64 (rd Q0 3), .int .i64 0, .int .i64 0, .int .i64 0, .int .i64 0, .int .i64 0, .int .i64 0] 29 (0, 0))) ∧ Aside0 (Below w.heap.size w wc))
      case first =>
       have H := HC8.out
       clear HC8
       by_cases c33 : (rd Q0 0) = 2
       ·rw [if_pos c33] at H
        have X1 : ((rd Q0 0) == 2) = true := beq_iff_eq.mpr c33
        have c33b1 : ((rd Q0 0) != 2) = false := bne_eq_false_iff_eq.mpr c33
        clear c33
        (first | rw [X1] | (simp only [qqs, qqu]; rw [X1]) | skip)
        have H' := Aside0.mk H
        clear H
        go_wp2
        go_meet
        case rel => exact ⟨_, (wrap64 (Qj + 9)), (by first | rfl | (simp; done) | (simp [*]; done)), H', ⟨by first | omega | exact Nat.le_refl _⟩, ⟨by (with_reducible repeat (first | refine qqd ?_ _ | refine qqf ?_ | refine qqe ?_ _)); refine qql ?_ Q1.out _; (with_reducible repeat (first | refine qqd ?_ _ | refine qqf ?_ | refine qqe ?_ _)); refine qql ?_ Q1.out _; (with_reducible repeat (first | refine qqd ?_ _ | refine qqf ?_ | refine qqe ?_ _)); refine qql ?_ Q1.out _; (with_reducible repeat (first | refine qqd ?_ _ | refine qqf ?_ | refine qqe ?_ _)); refine qql ?_ Q1.out _; (with_reducible repeat (first | refine qqd ?_ _ | refine qqf ?_ | refine qqe ?_ _)); refine qql ?_ Q1.out _; (with_reducible repeat (first | refine qqd ?_ _ | refine qqf ?_ | refine qqe ?_ _)); refine qql ?_ Q1.out _; (with_reducible repeat (first | refine qqd ?_ _ | refine qqf ?_ | refine qqe ?_ _)); refine qql ?_ Q1.out _; (with_reducible repeat (first | refine qqd ?_ _ | refine qqf ?_ | refine qqe ?_ _)); refine qql ?_ Q1.out _; (with_reducible repeat (first | refine qqd ?_ _ | refine qqf ?_ | refine qqe ?_ _)); refine qql ?_ Q1.out _; (with_reducible repeat (first | refine qqd ?_ _ | refine qqf ?_ | refine qqe ?_ _)); refine qql ?_ Q1.out _; (with_reducible repeat (first | refine qqd ?_ _ | refine qqf ?_ | refine qqe ?_ _)); exact Q3.out⟩, ⟨by (with_reducible repeat (first | refine qqd ?_ _ | refine qqf ?_ | refine qqe ?_ _)); refine qql ?_ Q2.out _; (with_reducible repeat (first | refine qqd ?_ _ | refine qqf ?_ | refine qqe ?_ _)); refine qql ?_ Q2.out _; (with_reducible repeat (first | refine qqd ?_ _ | refine qqf ?_ | refine qqe ?_ _)); refine qql ?_ Q2.out _; (with_reducible repeat (first | refine qqd ?_ _ | refine qqf ?_ | refine qqe ?_ _)); refine qql ?_ Q2.out _; (with_reducible repeat (first | refine qqd ?_ _ | refine qqf ?_ | refine qqe ?_ _)); refine qql ?_ Q2.out _; (with_reducible repeat (first | refine qqd ?_ _ | refine qqf ?_ | refine qqe ?_ _)); refine qql ?_ Q2.out _; (with_reducible repeat (first | refine qqd ?_ _ | refine qqf ?_ | refine qqe ?_ _)); refine qql ?_ Q2.out _; (with_reducible repeat (first | refine qqd ?_ _ | refine qqf ?_ | refine qqe ?_ _)); refine qql ?_ Q2.out _; (with_reducible repeat (first | refine qqd ?_ _ | refine qqf ?_ | refine qqe ?_ _)); refine qql ?_ Q2.out _; (with_reducible repeat (first | refine qqd ?_ _ | refine qqf ?_ | refine qqe ?_ _)); refine qql ?_ Q2.out _; (with_reducible repeat (first | refine qqd ?_ _ | refine qqf ?_ | refine qqe ?_ _)); exact Q6.out⟩, ⟨by (with_reducible repeat (first | refine qqd ?_ _ | refine qqf ?_ | refine qqe ?_ _)); refine qqv (cs := #[.int .i64 (rd Q0 0), .int .i64 (rd Q0 1), .int .i64 (rd Q0 2), .int .i64 (rd Q0 3), .int .i64 0, .int .i64 0, .int .i64 0, .int .i64 0, .int .i64 0, .int .i64 0]) ?_ 9 _ rfl; (with_reducible repeat (first | refine qqd ?_ _ | refine qqf ?_ | refine qqe ?_ _)); refine qqv (cs := #[.int .i64 (rd Q0 0), .int .i64 (rd Q0 1), .int .i64 (rd Q0 2), .int .i64 (rd Q0 3), .int .i64 0, .int .i64 0, .int .i64 0, .int .i64 0, .int .i64 0, .int .i64 0]) ?_ 8 _ rfl; (with_reducible repeat (first | refine qqd ?_ _ | refine qqf ?_ | refine qqe ?_ _)); refine qqv (cs := #[.int .i64 (rd Q0 0), .int .i64 (rd Q0 1), .int .i64 (rd Q0 2), .int .i64 (rd Q0 3), .int .i64 0, .int .i64 0, .int .i64 0, .int .i64 0, .int .i64 0, .int .i64 0]) ?_ 7 _ rfl; (with_reducible repeat (first | refine qqd ?_ _ | refine qqf ?_ | refine qqe ?_ _)); refine qqv (cs := #[.int .i64 (rd Q0 0), .int .i64 (rd Q0 1), .int .i64 (rd Q0 2), .int .i64 (rd Q0 3), .int .i64 0, .int .i64 0, .int .i64 0, .int .i64 0, .int .i64 0, .int .i64 0]) ?_ 6 _ rfl; (with_reducible repeat (first | refine qqd ?_ _ | refine qqf ?_ | refine qqe ?_ _)); refine qqv (cs := #[.int .i64 (rd Q0 0), .int .i64 (rd Q0 1), .int .i64 (rd Q0 2), .int .i64 (rd Q0 3), .int .i64 0, .int .i64 0, .int .i64 0, .int .i64 0, .int .i64 0, .int .i64 0]) ?_ 5 _ rfl; (with_reducible repeat (first | refine qqd ?_ _ | refine qqf ?_ | refine qqe ?_ _)); refine qqv (cs := #[.int .i64 (rd Q0 0), .int .i64 (rd Q0 1), .int .i64 (rd Q0 2), .int .i64 (rd Q0 3), .int .i64 0, .int .i64 0, .int .i64 0, .int .i64 0, .int .i64 0, .int .i64 0]) ?_ 4 _ rfl; (with_reducible repeat (first | refine qqd ?_ _ | refine qqf ?_ | refine qqe ?_ _)); refine qqv (cs := #[.int .i64 (rd Q0 0), .int .i64 (rd Q0 1), .int .i64 (rd Q0 2), .int .i64 0, .int .i64 0, .int .i64 0, .int .i64 0, .int .i64 0, .int .i64 0, .int .i64 0]) ?_ 3 _ rfl; (with_reducible repeat (first | refine qqd ?_ _ | refine qqf ?_ | refine qqe ?_ _)); refine qqv (cs := #[.int .i64 (rd Q0 0), .int .i64 (rd Q0 1), .int .i64 0, .int .i64 0, .int .i64 0, .int .i64 0, .int .i64 0, .int .i64 0, .int .i64 0, .int .i64 0]) ?_ 2 _ rfl; (with_reducible repeat (first | refine qqd ?_ _ | refine qqf ?_ | refine qqe ?_ _)); refine qqv (cs := #[.int .i64 (rd Q0 0), .int .i64 0, .int .i64 0, .int .i64 0, .int .i64 0, .int .i64 0, .int .i64 0, .int .i64 0, .int .i64 0, .int .i64 0]) ?_ 1 _ rfl; (with_reducible repeat (first | refine qqd ?_ _ | refine qqf ?_ | refine qqe ?_ _)); refine qqv (cs := #[.int .i64 0, .int .i64 0, .int .i64 0, .int .i64 0, .int .i64 0, .int .i64 0, .int .i64 0, .int .i64 0, .int .i64 0, .int .i64 0]) ?_ 0 _ rfl; (with_reducible repeat (first | refine qqd ?_ _ | refine qqf ?_ | refine qqe ?_ _)); exact Q4.out⟩, ⟨by repeat (first | (with_reducible first | exact HB.out | apply qqc | apply qqa | apply qqb | refine qqg ?_ GE334.out | refine qqg ?_ GE335.out | refine qqg ?_ GE348.out) | exact HB.out)⟩⟩
       ·rw [if_neg c33] at H
        have X1 : ((rd Q0 0) == 2) = false := beq_eq_false_iff_ne.mpr c33
        have c33b1 : ((rd Q0 0) != 2) = true := bne_iff_ne.mpr c33
        (first | rw [X1] | (simp only [qqs, qqu]; rw [X1]) | skip)
        have H' := Aside0.mk H
        clear H
        go_wp2
        go_meet
        case rel => exact ⟨_, (Qj), (by first | rfl | (simp; done) | (simp [*]; done)), H', ⟨by first | omega | exact Nat.le_refl _⟩, ⟨by (with_reducible repeat (first | refine qqd ?_ _ | refine qqf ?_ | refine qqe ?_ _)); refine qql ?_ Q1.out _; (with_reducible repeat (first | refine qqd ?_ _ | refine qqf ?_ | refine qqe ?_ _)); refine qql ?_ Q1.out _; (with_reducible repeat (first | refine qqd ?_ _ | refine qqf ?_ | refine qqe ?_ _)); refine qql ?_ Q1.out _; (with_reducible repeat (first | refine qqd ?_ _ | refine qqf ?_ | refine qqe ?_ _)); refine qql ?_ Q1.out _; (with_reducible repeat (first | refine qqd ?_ _ | refine qqf ?_ | refine qqe ?_ _)); refine qql ?_ Q1.out _; (with_reducible repeat (first | refine qqd ?_ _ | refine qqf ?_ | refine qqe ?_ _)); refine qql ?_ Q1.out _; (with_reducible repeat (first | refine qqd ?_ _ | refine qqf ?_ | refine qqe ?_ _)); refine qql ?_ Q1.out _; (with_reducible repeat (first | refine qqd ?_ _ | refine qqf ?_ | refine qqe ?_ _)); refine qql ?_ Q1.out _; (with_reducible repeat (first | refine qqd ?_ _ | refine qqf ?_ | refine qqe ?_ _)); refine qql ?_ Q1.out _; (with_reducible repeat (first | refine qqd ?_ _ | refine qqf ?_ | refine qqe ?_ _)); refine qql ?_ Q1.out _; (with_reducible repeat (first | refine qqd ?_ _ | refine qqf ?_ | refine qqe ?_ _)); exact Q3.out⟩, ⟨by (with_reducible repeat (first | refine qqd ?_ _ | refine qqf ?_ | refine qqe ?_ _)); refine qql ?_ Q2.out _; (with_reducible repeat (first | refine qqd ?_ _ | refine qqf ?_ | refine qqe ?_ _)); refine qql ?_ Q2.out _; (with_reducible repeat (first | refine qqd ?_ _ | refine qqf ?_ | refine qqe ?_ _)); refine qql ?_ Q2.out _; (with_reducible repeat (first | refine qqd ?_ _ | refine qqf ?_ | refine qqe ?_ _)); refine qql ?_ Q2.out _; (with_reducible repeat (first | refine qqd ?_ _ | refine qqf ?_ | refine qqe ?_ _)); refine qql ?_ Q2.out _; (with_reducible repeat (first | refine qqd ?_ _ | refine qqf ?_ | refine qqe ?_ _)); refine qql ?_ Q2.out _; (with_reducible repeat (first | refine qqd ?_ _ | refine qqf ?_ | refine qqe ?_ _)); refine qql ?_ Q2.out _; (with_reducible repeat (first | refine qqd ?_ _ | refine qqf ?_ | refine qqe ?_ _)); refine qql ?_ Q2.out _; (with_reducible repeat (first | refine qqd ?_ _ | refine qqf ?_ | refine qqe ?_ _)); refine qql ?_ Q2.out _; (with_reducible repeat (first | refine qqd ?_ _ | refine qqf ?_ | refine qqe ?_ _)); refine qql ?_ Q2.out _; (with_reducible repeat (first | refine qqd ?_ _ | refine qqf ?_ | refine qqe ?_ _)); exact Q6.out⟩, ⟨by (with_reducible repeat (first | refine qqd ?_ _ | refine qqf ?_ | refine qqe ?_ _)); refine qqv (cs := #[.int .i64 (rd Q0 0), .int .i64 (rd Q0 1), .int .i64 (rd Q0 2), .int .i64 (rd Q0 3), .int .i64 0, .int .i64 0, .int .i64 0, .int .i64 0, .int .i64 0, .int .i64 0]) ?_ 9 _ rfl; (with_reducible repeat (first | refine qqd ?_ _ | refine qqf ?_ | refine qqe ?_ _)); refine qqv (cs := #[.int .i64 (rd Q0 0), .int .i64 (rd Q0 1), .int .i64 (rd Q0 2), .int .i64 (rd Q0 3), .int .i64 0, .int .i64 0, .int .i64 0, .int .i64 0, .int .i64 0, .int .i64 0]) ?_ 8 _ rfl; (with_reducible repeat (first | refine qqd ?_ _ | refine qqf ?_ | refine qqe ?_ _)); refine qqv (cs := #[.int .i64 (rd Q0 0), .int .i64 (rd Q0 1), .int .i64 (rd Q0 2), .int .i64 (rd Q0 3), .int .i64 0, .int .i64 0, .int .i64 0, .int .i64 0, .int .i64 0, .int .i64 0]) ?_ 7 _ rfl; (with_reducible repeat (first | refine qqd ?_ _ | refine qqf ?_ | refine qqe ?_ _)); refine qqv (cs := #[.int .i64 (rd Q0 0), .int .i64 (rd Q0 1), .int .i64 (rd Q0 2), .int .i64 (rd Q0 3), .int .i64 0, .int .i64 0, .int .i64 0, .int .i64 0, .int .i64 0, .int .i64 0]) ?_ 6 _ rfl; (with_reducible repeat (first | refine qqd ?_ _ | refine qqf ?_ | refine qqe ?_ _)); refine qqv (cs := #[.int .i64 (rd Q0 0), .int .i64 (rd Q0 1), .int .i64 (rd Q0 2), .int .i64 (rd Q0 3), .int .i64 0, .int .i64 0, .int .i64 0, .int .i64 0, .int .i64 0, .int .i64 0]) ?_ 5 _ rfl; (with_reducible repeat (first | refine qqd ?_ _ | refine qqf ?_ | refine qqe ?_ _)); refine qqv (cs := #[.int .i64 (rd Q0 0), .int .i64 (rd Q0 1), .int .i64 (rd Q0 2), .int .i64 (rd Q0 3), .int .i64 0, .int .i64 0, .int .i64 0, .int .i64 0, .int .i64 0, .int .i64 0]) ?_ 4 _ rfl; (with_reducible repeat (first | refine qqd ?_ _ | refine qqf ?_ | refine qqe ?_ _)); refine qqv (cs := #[.int .i64 (rd Q0 0), .int .i64 (rd Q0 1), .int .i64 (rd Q0 2), .int .i64 0, .int .i64 0, .int .i64 0, .int .i64 0, .int .i64 0, .int .i64 0, .int .i64 0]) ?_ 3 _ rfl; (with_reducible repeat (first | refine qqd ?_ _ | refine qqf ?_ | refine qqe ?_ _)); refine qqv (cs := #[.int .i64 (rd Q0 0), .int .i64 (rd Q0 1), .int .i64 0, .int .i64 0, .int .i64 0, .int .i64 0, .int .i64 0, .int .i64 0, .int .i64 0, .int .i64 0]) ?_ 2 _ rfl; (with_reducible repeat (first | refine qqd ?_ _ | refine qqf ?_ | refine qqe ?_ _)); refine qqv (cs := #[.int .i64 (rd Q0 0), .int .i64 0, .int .i64 0, .int .i64 0, .int .i64 0, .int .i64 0, .int .i64 0, .int .i64 0, .int .i64 0, .int .i64 0]) ?_ 1 _ rfl; (with_reducible repeat (first | refine qqd ?_ _ | refine qqf ?_ | refine qqe ?_ _)); refine qqv (cs := #[.int .i64 0, .int .i64 0, .int .i64 0, .int .i64 0, .int .i64 0, .int .i64 0, .int .i64 0, .int .i64 0, .int .i64 0, .int .i64 0]) ?_ 0 _ rfl; (with_reducible repeat (first | refine qqd ?_ _ | refine qqf ?_ | refine qqe ?_ _)); exact Q4.out⟩, ⟨by repeat (first | (with_reducible first | exact HB.out | apply qqc | apply qqa | apply qqb | refine qqg ?_ GE334.out | refine qqg ?_ GE335.out | refine qqg ?_ GE348.out) | exact HB.out)⟩⟩
      case rest =>
       clear HC8
       try clear c1
       try clear c2
       try clear p2
       try clear c3
       try clear c3b0
       try clear c3b1
       try clear p3
       try clear q3
       try clear hx3
       try clear qi3
       try clear c4
       try clear c4b0
       try clear c4b1
       try clear c5
       try clear c5b0
       try clear c5b1
       try clear c6
       try clear c6b0
       try clear c6b1
       try clear p6
       try clear c7
       try clear c7b0
       try clear c7b1
       try clear c11
       try clear c29
       try clear c30
       try clear c31
       try clear c33
       try clear X1
       try clear c33b1
       try clear hcz12_0
       try clear hcz12_1
       try clear hcz12_2
       try clear hcz12_3
       try clear hcz12_4
       try clear hcz12_5
       try clear hcz12_6
       try clear hcz12_7
       try clear hcz12_8
       try clear hcz12_9
       try clear hcz32_0
       try clear hcz32_1
       try clear hcz32_2
       try clear hcz32_3
       try clear hcz32_4
       try clear hcz32_5
       try clear hcz32_6
       try clear hcz32_7
       try clear hcz32_8
       try clear hcz32_9
       try clear hfz12_0
       try clear hfz12_1
       try clear hfz12_2
       try clear hfz12_3
       try clear hfz12_4
       try clear hfz12_5
       try clear hfz12_6
       try clear hfz12_7
       try clear hfz12_8
       try clear hfz12_9
       try clear hfz32_0
       try clear hfz32_1
       try clear hfz32_2
       try clear hfz32_3
       try clear hfz32_4
       try clear hfz32_5
       try clear hfz32_6
       try clear hfz32_7
       try clear hfz32_8
       try clear hfz32_9
       try clear Qw
       try clear Qx
       try clear Qy
       try clear Qz
       try clear p344
       try clear p345
       try clear p346
       try clear p347
       try clear q344
       try clear q345
       try clear q346
       try clear q347
       obtain ⟨kq, x9_7, rfl, HA, HJ7, Q3, Q6, Q4, HB⟩ := hcut
       cases kq with
       | zero => exact absurd HA.out (by simp [wayfinderref05_Get.j0])
       | succ kj7 =>
        have H := HA.out
        clear HA
        simp only [wayfinderref05_Get.j0] at H
        by_cases c34 : (l0.length : Int) < x9_7
        ·rw [if_pos c34] at H
         have c34b0 : decide ((l0.length : Int) < x9_7) = true := decide_eq_true c34
         clear c34
         simp only [Option.some.injEq, Prod.mk.injEq] at H
         obtain ⟨rfl, rfl, rfl, rfl, rfl, rfl, rfl, rfl, rfl, rfl, rfl⟩ := H
         have hnb35 := Qf.out
         have hnc35 := Q5.out
         have hnb36 := Q2.out
         have hnc36 := Qb.out
         obtain ⟨_, _, _, _, _, _, _, _, _, _⟩ := qqz Q6.out
         obtain ⟨_, _, _, _, _, _, _, _, _, _⟩ := qqx Q6.out
         have hnb38 := Q1.out
         have hnc38 := Qa.out
         obtain ⟨_, _, _, _, _, _, _, _, _, _⟩ := qqz Q3.out
         obtain ⟨_, _, _, _, _, _, _, _, _, _⟩ := qqx Q3.out
         go_wp2
         refine bodyPost_ret (results_ct rfl _ _ Qn 29 #[.int .i64 0, .int .i64 0, .int .i64 0, .int .i64 0, .int .i64 0, .int .i64 0, .int .i64 0, .int .i64 0, .int .i64 0, .int .i64 0] (0, 0) _ rfl (by exact bput10 Q3.out) Tryd.underlying29 rfl (by kernel_rfl)) rfl ?_
         exact ⟨by first | rfl | (simp [qqk, qqj] <;> rfl) | (simp [*, qqk, qqj] <;> rfl), by repeat (first | (with_reducible first | exact HB.out | apply qqc | apply qqa | apply qqb | refine qqg ?_ GE334.out | refine qqg ?_ GE335.out | refine qqg ?_ GE348.out) | exact HB.out)⟩
        ·rw [if_neg c34] at H
         have c34b0 : decide ((l0.length : Int) < x9_7) = false := decide_eq_false c34
         clear c34
         by_cases c40 : (l0.length : Int) > x9_7
         ·rw [if_pos c40] at H
          have c40b0 : decide (x9_7 < (l0.length : Int)) = true := decide_eq_true c40
          clear c40
          simp only [Option.some.injEq, Prod.mk.injEq] at H
          obtain ⟨rfl, rfl, rfl, rfl, rfl, rfl, rfl, rfl, rfl, rfl, rfl⟩ := H
          have hnb41 := Qf.out
          have hnc41 := Q5.out
          have hnb42 := Q2.out
          have hnc42 := Qb.out
          obtain ⟨_, _, _, _, _, _, _, _, _, _⟩ := qqz Q6.out
          obtain ⟨_, _, _, _, _, _, _, _, _, _⟩ := qqx Q6.out
          have hnb44 := Q1.out
          have hnc44 := Qa.out
          obtain ⟨_, _, _, _, _, _, _, _, _, _⟩ := qqz Q3.out
          obtain ⟨_, _, _, _, _, _, _, _, _, _⟩ := qqx Q3.out
          go_wp2
          refine bodyPost_ret (results_ct rfl _ _ Qn 29 #[.int .i64 0, .int .i64 0, .int .i64 0, .int .i64 0, .int .i64 0, .int .i64 0, .int .i64 0, .int .i64 0, .int .i64 0, .int .i64 0] (0, 0) _ rfl (by exact bput10 Q3.out) Tryd.underlying29 rfl (by kernel_rfl)) rfl ?_
          exact ⟨by first | rfl | (simp [qqk, qqj] <;> rfl) | (simp [*, qqk, qqj] <;> rfl), by repeat (first | (with_reducible first | exact HB.out | apply qqc | apply qqa | apply qqb | refine qqg ?_ GE334.out | refine qqg ?_ GE335.out | refine qqg ?_ GE348.out) | exact HB.out)⟩
         ·rw [if_neg c40] at H
          have c40b0 : decide (x9_7 < (l0.length : Int)) = false := decide_eq_false c40
          clear c40
          by_cases c46 : (rd Q0 0) = 2
          ·rw [if_pos c46] at H
           have c46b0 : ((rd Q0 0) == 2) = true := beq_iff_eq.mpr c46
           have c46b1 : ((rd Q0 0) != 2) = false := bne_eq_false_iff_eq.mpr c46
           clear c46
           by_cases c47 : 0 ≤ Qj
           ·rw [if_pos c47] at H
            have c47b0 := eq_true c47
            have c47b1 : decide (0 ≤ Qj) = true := decide_eq_true c47
            clear c47
            by_cases c48 : Qj ≤ (l0.length : Int)
            ·rw [if_pos c48] at H
             have c48b0 := eq_true c48
             have c48b1 : decide (Qj ≤ (l0.length : Int)) = true := decide_eq_true c48
             clear c48
             replace H := Option.bind_eq_some_iff.mp H
             obtain ⟨⟨Qg, Qi, Qk, Qm, Qq, Qu, t356⟩, A490, H⟩ := H
             replace H : (if t356 = 0 then ((wayfinderref05_May.f kj7 (rd Q0 0) (rd Q0 1) (rd Q0 2) (rd Q0 3) Qg Qi Qk Qm Qq Qu).bind fun t358 => (if t358 = true then (some ((rd Q0 0), (rd Q0 1), (rd Q0 2), (rd Q0 3), Qg, Qi, Qk, Qm, Qq, Qu, 0)) else (some (0, 0, 0, 0, 0, 0, 0, 0, 0, 0, 2)))) else (some (0, 0, 0, 0, 0, 0, 0, 0, 0, 0, 2))) = some (r1, r2, r3, r4, r5, r6, r7, r8, r9, r10, r11) := H
             have A49 := Aside0.mk A490
             clear A490
             by_cases c50 : t356 = 0
             ·rw [if_pos c50] at H
              have c50b0 : (t356 == 0) = true := beq_iff_eq.mpr c50
              have c50b1 : (t356 != 0) = false := bne_eq_false_iff_eq.mpr c50
              clear c50
              replace H := Option.bind_eq_some_iff.mp H
              obtain ⟨t358, A510, H⟩ := H
              replace H : (if t358 = true then (some ((rd Q0 0), (rd Q0 1), (rd Q0 2), (rd Q0 3), Qg, Qi, Qk, Qm, Qq, Qu, 0)) else (some (0, 0, 0, 0, 0, 0, 0, 0, 0, 0, 2))) = some (r1, r2, r3, r4, r5, r6, r7, r8, r9, r10, r11) := H
              have A51 := Aside0.mk A510
              clear A510
              by_cases c52 : t358 = true
              ·subst c52
               have H1 : (some ((rd Q0 0), (rd Q0 1), (rd Q0 2), (rd Q0 3), Qg, Qi, Qk, Qm, Qq, Qu, 0)) = some (r1, r2, r3, r4, r5, r6, r7, r8, r9, r10, r11) := by rw [if_pos rfl] at H; exact H
               clear H
               have H := H1
               clear H1
               simp only [Option.some.injEq, Prod.mk.injEq] at H
               obtain ⟨rfl, rfl, rfl, rfl, rfl, rfl, rfl, rfl, rfl, rfl, rfl⟩ := H
               have hnb53 := Qa.out
               have hnc53 := Q1.out
               have hnb54 := Qb.out
               have hnc54 := Q2.out
               obtain ⟨_, _, _, _, _, _, _, _, _, _⟩ := qqz Q4.out
               obtain ⟨_, _, _, _, _, _, _, _, _, _⟩ := qqx Q4.out
               obtain ⟨i056, hi056, _, hsz56, _⟩ := info_parts info5
               obtain ⟨A56, hcut56, hA56, hC56⟩ := print_drop_of (P := Tryd.prog) (Value.int .u8) 0 31 5 .i64 Tryd.underlying31 hi056 hsz56 A0 c0 l0 Qj (of_decide_eq_true (by first | (with_reducible assumption) | assumption)) (of_decide_eq_true (by first | (with_reducible assumption) | assumption)) HC0.out
               have HR349 := Aside0.mk (Kd.C_of_reads (h1 := fun _ => rfl) (hA56 _ (Kd.reads_of_C HR0.out)))
               have HC349 := Aside0.mk hC56
               clear hA56 hC56 hi056 hsz56
               go_wp2_with (first | ((with_reducible refine qqo (f := 41) rfl ?_); refine goesL_ (some 61) rfl rfl Tryd.func41 (by kernel_rfl) rfl #[.slice A56 (l0.drop (Qj : Int).toNat).length (c0 - Qj.toNat)] rfl (by (try simp only [List.map_toArray, List.map_cons, List.map_nil]); first | done | (rw [show (l0.drop (Qj : Int).toNat).length = (l0.length - Qj.toNat) from List.length_drop] <;> rfl) | rfl | (simp only [List.length_drop, List.length_take]; rfl)) ?_; (with_reducible refine (wayfinderref04_Get.calls kj7 _ _ (l0.drop (Qj : Int).toNat) Qg Qi Qk Qm Qq Qu t356 _ ?side1 ?side2 A49.out).mono ?_); (case side1 => repeat (first | exact (Kd.C_below HR349.out HB.out) | (with_reducible refine Kd.C_alloc ?_ _) | (with_reducible refine Kd.C_drewN ?_ _) | (with_reducible refine Kd.C_drew ?_))); (case side2 => exact HC349.out); rintro e w57 ⟨rfl, hb⟩; refine ⟨_, rfl, ?_⟩; replace Q3 := bbl Q3 hb; replace Q6 := bbl Q6 hb; replace Q4 := bbl Q4 hb; replace HB := bst HB hb; (try clear hb)) | ((with_reducible refine qqr (N := 10) rfl ?_); refine qqw ?hg (N := 10) ?hd (cs := #[.int .i64 0, .int .i64 0, .int .i64 0, .int .i64 0, .int .i64 0, .int .i64 0]) (t := 27) ?hr ?_; (case hd => rfl); (case hg => rfl); (case hr => first | (go_simp; done) | (go_simp; rfl)); intro gb357 hg w58 hbox hb; have n0_ := bbl Q3 hb; have n1_ := bbl Q6 hb; have n2_ := bbl Q4 hb; have n3_ := bst HB hb; have n4_ := Aside0.mk (hbox); have n5_ := szl HB hg; have n6_ := szl HB hg; have n7_ := nel Q3 hg; have n8_ := ner Q3 hg; have n9_ := nel Q6 hg; have n10_ := ner Q6 hg; have n11_ := nel Q4 hg; have n12_ := ner Q4 hg; clear Q3; clear Q6; clear Q4; clear HB; have Q3 := n0_; have Q6 := n1_; have Q4 := n2_; have HB := n3_; have Qt := n4_; have GW357 := n5_; have GE357 := n6_; have Q8 := n7_; have Qr := n8_; have Qc := n9_; have Qs := n10_; have Qd := n11_; have Qe := n12_; clear n0_ n1_ n2_ n3_ n4_ n5_ n6_ n7_ n8_ n9_ n10_ n11_ n12_; clear hb hbox hg; have hnb59 := Qr.out; have hnc59 := Q8.out; have hnb60 := Qs.out; have hnc60 := Qc.out; have hnb61 := Qe.out; have hnc61 := Qd.out; obtain ⟨_, _, _, _, _, _⟩ := bcells6 Qt.out; obtain ⟨_, _, _, _, _, _⟩ := bfrozen6 Qt.out; obtain ⟨_, _, _, _, _, _, _, _, _, _⟩ := qqz Q4.out; obtain ⟨_, _, _, _, _, _, _, _, _, _⟩ := qqx Q4.out) | ((with_reducible refine qqo (f := 34) rfl ?_); refine goesL_ (some 70) rfl rfl Tryd.func34 (by kernel_rfl) rfl #[.agg #[.int .i64 (rd Q0 0), .int .i64 (rd Q0 1), .int .i64 (rd Q0 2), .int .i64 (rd Q0 3), .int .i64 Qg, .int .i64 Qi, .int .i64 Qk, .int .i64 Qm, .int .i64 Qq, .int .i64 Qu]] rfl (by (try simp only [List.map_toArray, List.map_cons, List.map_nil]); first | done | rfl | (simp only [List.length_drop, List.length_take]; rfl)) ?_; (with_reducible refine (wayfinderref05_May.calls kj7 (rd Q0 0) (rd Q0 1) (rd Q0 2) (rd Q0 3) Qg Qi Qk Qm Qq Qu true _ A51.out).mono ?_); rintro e w64 ⟨rfl, hb⟩; refine ⟨_, rfl, ?_⟩; replace Q3 := Aside0.mk (blk_below (g := Qn) (o := .cells #[.int .i64 0, .int .i64 0, .int .i64 0, .int .i64 0, .int .i64 0, .int .i64 0, .int .i64 0, .int .i64 0, .int .i64 0, .int .i64 0] 29 (0, 0)) (by (with_reducible repeat (first | refine qqd ?_ _ | refine qqf ?_ | refine qqe ?_ _)); refine qql ?_ Q1.out _; (with_reducible repeat (first | refine qqd ?_ _ | refine qqf ?_ | refine qqe ?_ _)); refine qql ?_ Q1.out _; (with_reducible repeat (first | refine qqd ?_ _ | refine qqf ?_ | refine qqe ?_ _)); refine qql ?_ Q1.out _; (with_reducible repeat (first | refine qqd ?_ _ | refine qqf ?_ | refine qqe ?_ _)); refine qql ?_ Q1.out _; (with_reducible repeat (first | refine qqd ?_ _ | refine qqf ?_ | refine qqe ?_ _)); refine qql ?_ Q1.out _; (with_reducible repeat (first | refine qqd ?_ _ | refine qqf ?_ | refine qqe ?_ _)); refine qql ?_ Q1.out _; (with_reducible repeat (first | refine qqd ?_ _ | refine qqf ?_ | refine qqe ?_ _)); refine qql ?_ Q8.out _; (with_reducible repeat (first | refine qqd ?_ _ | refine qqf ?_ | refine qqe ?_ _)); refine qql ?_ Q8.out _; (with_reducible repeat (first | refine qqd ?_ _ | refine qqf ?_ | refine qqe ?_ _)); refine qql ?_ Q8.out _; (with_reducible repeat (first | refine qqd ?_ _ | refine qqf ?_ | refine qqe ?_ _)); refine qql ?_ Q8.out _; (with_reducible repeat (first | refine qqd ?_ _ | refine qqf ?_ | refine qqe ?_ _)); refine qql ?_ Q8.out _; (with_reducible repeat (first | refine qqd ?_ _ | refine qqf ?_ | refine qqe ?_ _)); refine qql ?_ Q8.out _; (with_reducible repeat (first | refine qqd ?_ _ | refine qqf ?_ | refine qqe ?_ _)); exact Q3.out) hb); replace Q6 := Aside0.mk (blk_below (g := X0) (o := .cells #[.int .i64 0, .int .i64 0, .int .i64 0, .int .i64 0, .int .i64 0, .int .i64 0, .int .i64 0, .int .i64 0, .int .i64 0, .int .i64 0] 29 (0, 0)) (by (with_reducible repeat (first | refine qqd ?_ _ | refine qqf ?_ | refine qqe ?_ _)); refine qql ?_ Q2.out _; (with_reducible repeat (first | refine qqd ?_ _ | refine qqf ?_ | refine qqe ?_ _)); refine qql ?_ Q2.out _; (with_reducible repeat (first | refine qqd ?_ _ | refine qqf ?_ | refine qqe ?_ _)); refine qql ?_ Q2.out _; (with_reducible repeat (first | refine qqd ?_ _ | refine qqf ?_ | refine qqe ?_ _)); refine qql ?_ Q2.out _; (with_reducible repeat (first | refine qqd ?_ _ | refine qqf ?_ | refine qqe ?_ _)); refine qql ?_ Q2.out _; (with_reducible repeat (first | refine qqd ?_ _ | refine qqf ?_ | refine qqe ?_ _)); refine qql ?_ Q2.out _; (with_reducible repeat (first | refine qqd ?_ _ | refine qqf ?_ | refine qqe ?_ _)); refine qql ?_ Qc.out _; (with_reducible repeat (first | refine qqd ?_ _ | refine qqf ?_ | refine qqe ?_ _)); refine qql ?_ Qc.out _; (with_reducible repeat (first | refine qqd ?_ _ | refine qqf ?_ | refine qqe ?_ _)); refine qql ?_ Qc.out _; (with_reducible repeat (first | refine qqd ?_ _ | refine qqf ?_ | refine qqe ?_ _)); refine qql ?_ Qc.out _; (with_reducible repeat (first | refine qqd ?_ _ | refine qqf ?_ | refine qqe ?_ _)); refine qql ?_ Qc.out _; (with_reducible repeat (first | refine qqd ?_ _ | refine qqf ?_ | refine qqe ?_ _)); refine qql ?_ Qc.out _; (with_reducible repeat (first | refine qqd ?_ _ | refine qqf ?_ | refine qqe ?_ _)); exact Q6.out) hb); replace Q4 := Aside0.mk (blk_below (g := Q9) (o := .cells #[.int .i64 (rd Q0 0), .int .i64 (rd Q0 1), .int .i64 (rd Q0 2), .int .i64 (rd Q0 3), .int .i64 Qg, .int .i64 Qi, .int .i64 Qk, .int .i64 Qm, .int .i64 Qq, .int .i64 Qu] 29 (0, 0)) (by (with_reducible repeat (first | refine qqd ?_ _ | refine qqf ?_ | refine qqe ?_ _)); refine qqv (cs := #[.int .i64 (rd Q0 0), .int .i64 (rd Q0 1), .int .i64 (rd Q0 2), .int .i64 (rd Q0 3), .int .i64 Qg, .int .i64 Qi, .int .i64 Qk, .int .i64 Qm, .int .i64 Qq, .int .i64 0]) ?_ 9 _ rfl; (with_reducible repeat (first | refine qqd ?_ _ | refine qqf ?_ | refine qqe ?_ _)); refine qqv (cs := #[.int .i64 (rd Q0 0), .int .i64 (rd Q0 1), .int .i64 (rd Q0 2), .int .i64 (rd Q0 3), .int .i64 Qg, .int .i64 Qi, .int .i64 Qk, .int .i64 Qm, .int .i64 0, .int .i64 0]) ?_ 8 _ rfl; (with_reducible repeat (first | refine qqd ?_ _ | refine qqf ?_ | refine qqe ?_ _)); refine qqv (cs := #[.int .i64 (rd Q0 0), .int .i64 (rd Q0 1), .int .i64 (rd Q0 2), .int .i64 (rd Q0 3), .int .i64 Qg, .int .i64 Qi, .int .i64 Qk, .int .i64 0, .int .i64 0, .int .i64 0]) ?_ 7 _ rfl; (with_reducible repeat (first | refine qqd ?_ _ | refine qqf ?_ | refine qqe ?_ _)); refine qqv (cs := #[.int .i64 (rd Q0 0), .int .i64 (rd Q0 1), .int .i64 (rd Q0 2), .int .i64 (rd Q0 3), .int .i64 Qg, .int .i64 Qi, .int .i64 0, .int .i64 0, .int .i64 0, .int .i64 0]) ?_ 6 _ rfl; (with_reducible repeat (first | refine qqd ?_ _ | refine qqf ?_ | refine qqe ?_ _)); refine qqv (cs := #[.int .i64 (rd Q0 0), .int .i64 (rd Q0 1), .int .i64 (rd Q0 2), .int .i64 (rd Q0 3), .int .i64 Qg, .int .i64 0, .int .i64 0, .int .i64 0, .int .i64 0, .int .i64 0]) ?_ 5 _ rfl; (with_reducible repeat (first | refine qqd ?_ _ | refine qqf ?_ | refine qqe ?_ _)); refine qqv (cs := #[.int .i64 (rd Q0 0), .int .i64 (rd Q0 1), .int .i64 (rd Q0 2), .int .i64 (rd Q0 3), .int .i64 0, .int .i64 0, .int .i64 0, .int .i64 0, .int .i64 0, .int .i64 0]) ?_ 4 _ rfl; (with_reducible repeat (first | refine qqd ?_ _ | refine qqf ?_ | refine qqe ?_ _)); refine qql ?_ Qd.out _; (with_reducible repeat (first | refine qqd ?_ _ | refine qqf ?_ | refine qqe ?_ _)); refine qql ?_ Qd.out _; (with_reducible repeat (first | refine qqd ?_ _ | refine qqf ?_ | refine qqe ?_ _)); refine qql ?_ Qd.out _; (with_reducible repeat (first | refine qqd ?_ _ | refine qqf ?_ | refine qqe ?_ _)); refine qql ?_ Qd.out _; (with_reducible repeat (first | refine qqd ?_ _ | refine qqf ?_ | refine qqe ?_ _)); refine qql ?_ Qd.out _; (with_reducible repeat (first | refine qqd ?_ _ | refine qqf ?_ | refine qqe ?_ _)); refine qql ?_ Qd.out _; (with_reducible repeat (first | refine qqd ?_ _ | refine qqf ?_ | refine qqe ?_ _)); exact Q4.out) hb); replace Qt := Aside0.mk (blk_below (g := gb357) (o := .cells #[.int .i64 Qg, .int .i64 Qi, .int .i64 Qk, .int .i64 Qm, .int .i64 Qq, .int .i64 Qu] 27 (0, 0)) (by (with_reducible repeat (first | refine qqd ?_ _ | refine qqf ?_ | refine qqe ?_ _)); refine qql ?_ Qe.out _; (with_reducible repeat (first | refine qqd ?_ _ | refine qqf ?_ | refine qqe ?_ _)); refine qql ?_ Qe.out _; (with_reducible repeat (first | refine qqd ?_ _ | refine qqf ?_ | refine qqe ?_ _)); refine qql ?_ Qe.out _; (with_reducible repeat (first | refine qqd ?_ _ | refine qqf ?_ | refine qqe ?_ _)); refine qql ?_ Qe.out _; (with_reducible repeat (first | refine qqd ?_ _ | refine qqf ?_ | refine qqe ?_ _)); refine qql ?_ Qe.out _; (with_reducible repeat (first | refine qqd ?_ _ | refine qqf ?_ | refine qqe ?_ _)); refine qql ?_ Qe.out _; (with_reducible repeat (first | refine qqd ?_ _ | refine qqf ?_ | refine qqe ?_ _)); refine qqv (cs := #[.int .i64 Qg, .int .i64 Qi, .int .i64 Qk, .int .i64 Qm, .int .i64 Qq, .int .i64 0]) ?_ 5 _ rfl; (with_reducible repeat (first | refine qqd ?_ _ | refine qqf ?_ | refine qqe ?_ _)); refine qqv (cs := #[.int .i64 Qg, .int .i64 Qi, .int .i64 Qk, .int .i64 Qm, .int .i64 0, .int .i64 0]) ?_ 4 _ rfl; (with_reducible repeat (first | refine qqd ?_ _ | refine qqf ?_ | refine qqe ?_ _)); refine qqv (cs := #[.int .i64 Qg, .int .i64 Qi, .int .i64 Qk, .int .i64 0, .int .i64 0, .int .i64 0]) ?_ 3 _ rfl; (with_reducible repeat (first | refine qqd ?_ _ | refine qqf ?_ | refine qqe ?_ _)); refine qqv (cs := #[.int .i64 Qg, .int .i64 Qi, .int .i64 0, .int .i64 0, .int .i64 0, .int .i64 0]) ?_ 2 _ rfl; (with_reducible repeat (first | refine qqd ?_ _ | refine qqf ?_ | refine qqe ?_ _)); refine qqv (cs := #[.int .i64 Qg, .int .i64 0, .int .i64 0, .int .i64 0, .int .i64 0, .int .i64 0]) ?_ 1 _ rfl; (with_reducible repeat (first | refine qqd ?_ _ | refine qqf ?_ | refine qqe ?_ _)); refine qqv (cs := #[.int .i64 0, .int .i64 0, .int .i64 0, .int .i64 0, .int .i64 0, .int .i64 0]) ?_ 0 _ rfl; (with_reducible repeat (first | refine qqd ?_ _ | refine qqf ?_ | refine qqe ?_ _)); exact Qt.out) hb); replace HB := bst HB hb; (try clear hb); obtain ⟨_, _, _, _, _, _, _, _, _, _⟩ := qqz Q4.out; obtain ⟨_, _, _, _, _, _, _, _, _, _⟩ := qqx Q4.out; have hnb66 := Q5.out; have hnc66 := Qf.out; obtain ⟨_, _, _, _, _, _, _, _, _, _⟩ := qqz Q3.out; obtain ⟨_, _, _, _, _, _, _, _, _, _⟩ := qqx Q3.out))
               refine bodyPost_ret (results_ct rfl _ _ Qn 29 #[.int .i64 (rd Q0 0), .int .i64 (rd Q0 1), .int .i64 (rd Q0 2), .int .i64 (rd Q0 3), .int .i64 Qg, .int .i64 Qi, .int .i64 Qk, .int .i64 Qm, .int .i64 Qq, .int .i64 Qu] (0, 0) _ rfl (by exact bput10 Q3.out) Tryd.underlying29 rfl (by kernel_rfl)) rfl ?_
               exact ⟨by first | rfl | (simp [qqk, qqj] <;> rfl) | (simp [*, qqk, qqj] <;> rfl), by repeat (first | (with_reducible first | exact HB.out | apply qqc | apply qqa | apply qqb | refine qqg ?_ GE334.out | refine qqg ?_ GE335.out | refine qqg ?_ GE348.out | refine qqg ?_ GE357.out) | exact HB.out)⟩
              ·replace c52 := Bool.eq_false_iff.mpr c52
               subst c52
               have H1 : (some (0, 0, 0, 0, 0, 0, 0, 0, 0, 0, 2)) = some (r1, r2, r3, r4, r5, r6, r7, r8, r9, r10, r11) := by rw [if_neg (show ¬ (false = true) by decide)] at H; exact H
               clear H
               have H := H1
               clear H1
               simp only [Option.some.injEq, Prod.mk.injEq] at H
               obtain ⟨rfl, rfl, rfl, rfl, rfl, rfl, rfl, rfl, rfl, rfl, rfl⟩ := H
               have hnb68 := Qa.out
               have hnc68 := Q1.out
               have hnb69 := Qb.out
               have hnc69 := Q2.out
               obtain ⟨_, _, _, _, _, _, _, _, _, _⟩ := qqz Q4.out
               obtain ⟨_, _, _, _, _, _, _, _, _, _⟩ := qqx Q4.out
               obtain ⟨i071, hi071, _, hsz71, _⟩ := info_parts info5
               obtain ⟨A71, hcut71, hA71, hC71⟩ := print_drop_of (P := Tryd.prog) (Value.int .u8) 0 31 5 .i64 Tryd.underlying31 hi071 hsz71 A0 c0 l0 Qj (of_decide_eq_true (by first | (with_reducible assumption) | assumption)) (of_decide_eq_true (by first | (with_reducible assumption) | assumption)) HC0.out
               have HR349 := Aside0.mk (Kd.C_of_reads (h1 := fun _ => rfl) (hA71 _ (Kd.reads_of_C HR0.out)))
               have HC349 := Aside0.mk hC71
               clear hA71 hC71 hi071 hsz71
               go_wp2_with (first | ((with_reducible refine qqo (f := 41) rfl ?_); refine goesL_ (some 61) rfl rfl Tryd.func41 (by kernel_rfl) rfl #[.slice A71 (l0.drop (Qj : Int).toNat).length (c0 - Qj.toNat)] rfl (by (try simp only [List.map_toArray, List.map_cons, List.map_nil]); first | done | (rw [show (l0.drop (Qj : Int).toNat).length = (l0.length - Qj.toNat) from List.length_drop] <;> rfl) | rfl | (simp only [List.length_drop, List.length_take]; rfl)) ?_; (with_reducible refine (wayfinderref04_Get.calls kj7 _ _ (l0.drop (Qj : Int).toNat) Qg Qi Qk Qm Qq Qu t356 _ ?side1 ?side2 A49.out).mono ?_); (case side1 => repeat (first | exact (Kd.C_below HR349.out HB.out) | (with_reducible refine Kd.C_alloc ?_ _) | (with_reducible refine Kd.C_drewN ?_ _) | (with_reducible refine Kd.C_drew ?_))); (case side2 => exact HC349.out); rintro e w72 ⟨rfl, hb⟩; refine ⟨_, rfl, ?_⟩; replace Q3 := bbl Q3 hb; replace Q6 := bbl Q6 hb; replace Q4 := bbl Q4 hb; replace HB := bst HB hb; (try clear hb)) | ((with_reducible refine qqr (N := 10) rfl ?_); refine qqw ?hg (N := 10) ?hd (cs := #[.int .i64 0, .int .i64 0, .int .i64 0, .int .i64 0, .int .i64 0, .int .i64 0]) (t := 27) ?hr ?_; (case hd => rfl); (case hg => rfl); (case hr => first | (go_simp; done) | (go_simp; rfl)); intro gb357 hg w73 hbox hb; have n0_ := bbl Q3 hb; have n1_ := bbl Q6 hb; have n2_ := bbl Q4 hb; have n3_ := bst HB hb; have n4_ := Aside0.mk (hbox); have n5_ := szl HB hg; have n6_ := szl HB hg; have n7_ := nel Q3 hg; have n8_ := ner Q3 hg; have n9_ := nel Q6 hg; have n10_ := ner Q6 hg; have n11_ := nel Q4 hg; have n12_ := ner Q4 hg; clear Q3; clear Q6; clear Q4; clear HB; have Q3 := n0_; have Q6 := n1_; have Q4 := n2_; have HB := n3_; have Qt := n4_; have GW357 := n5_; have GE357 := n6_; have Q8 := n7_; have Qr := n8_; have Qc := n9_; have Qs := n10_; have Qd := n11_; have Qe := n12_; clear n0_ n1_ n2_ n3_ n4_ n5_ n6_ n7_ n8_ n9_ n10_ n11_ n12_; clear hb hbox hg; have hnb74 := Qr.out; have hnc74 := Q8.out; have hnb75 := Qs.out; have hnc75 := Qc.out; have hnb76 := Qe.out; have hnc76 := Qd.out; obtain ⟨_, _, _, _, _, _⟩ := bcells6 Qt.out; obtain ⟨_, _, _, _, _, _⟩ := bfrozen6 Qt.out; obtain ⟨_, _, _, _, _, _, _, _, _, _⟩ := qqz Q4.out; obtain ⟨_, _, _, _, _, _, _, _, _, _⟩ := qqx Q4.out) | ((with_reducible refine qqo (f := 34) rfl ?_); refine goesL_ (some 70) rfl rfl Tryd.func34 (by kernel_rfl) rfl #[.agg #[.int .i64 (rd Q0 0), .int .i64 (rd Q0 1), .int .i64 (rd Q0 2), .int .i64 (rd Q0 3), .int .i64 Qg, .int .i64 Qi, .int .i64 Qk, .int .i64 Qm, .int .i64 Qq, .int .i64 Qu]] rfl (by (try simp only [List.map_toArray, List.map_cons, List.map_nil]); first | done | rfl | (simp only [List.length_drop, List.length_take]; rfl)) ?_; (with_reducible refine (wayfinderref05_May.calls kj7 (rd Q0 0) (rd Q0 1) (rd Q0 2) (rd Q0 3) Qg Qi Qk Qm Qq Qu false _ A51.out).mono ?_); rintro e w79 ⟨rfl, hb⟩; refine ⟨_, rfl, ?_⟩; replace Q3 := Aside0.mk (blk_below (g := Qn) (o := .cells #[.int .i64 0, .int .i64 0, .int .i64 0, .int .i64 0, .int .i64 0, .int .i64 0, .int .i64 0, .int .i64 0, .int .i64 0, .int .i64 0] 29 (0, 0)) (by (with_reducible repeat (first | refine qqd ?_ _ | refine qqf ?_ | refine qqe ?_ _)); refine qql ?_ Q1.out _; (with_reducible repeat (first | refine qqd ?_ _ | refine qqf ?_ | refine qqe ?_ _)); refine qql ?_ Q1.out _; (with_reducible repeat (first | refine qqd ?_ _ | refine qqf ?_ | refine qqe ?_ _)); refine qql ?_ Q1.out _; (with_reducible repeat (first | refine qqd ?_ _ | refine qqf ?_ | refine qqe ?_ _)); refine qql ?_ Q1.out _; (with_reducible repeat (first | refine qqd ?_ _ | refine qqf ?_ | refine qqe ?_ _)); refine qql ?_ Q1.out _; (with_reducible repeat (first | refine qqd ?_ _ | refine qqf ?_ | refine qqe ?_ _)); refine qql ?_ Q1.out _; (with_reducible repeat (first | refine qqd ?_ _ | refine qqf ?_ | refine qqe ?_ _)); refine qql ?_ Q8.out _; (with_reducible repeat (first | refine qqd ?_ _ | refine qqf ?_ | refine qqe ?_ _)); refine qql ?_ Q8.out _; (with_reducible repeat (first | refine qqd ?_ _ | refine qqf ?_ | refine qqe ?_ _)); refine qql ?_ Q8.out _; (with_reducible repeat (first | refine qqd ?_ _ | refine qqf ?_ | refine qqe ?_ _)); refine qql ?_ Q8.out _; (with_reducible repeat (first | refine qqd ?_ _ | refine qqf ?_ | refine qqe ?_ _)); refine qql ?_ Q8.out _; (with_reducible repeat (first | refine qqd ?_ _ | refine qqf ?_ | refine qqe ?_ _)); refine qql ?_ Q8.out _; (with_reducible repeat (first | refine qqd ?_ _ | refine qqf ?_ | refine qqe ?_ _)); exact Q3.out) hb); replace Q6 := Aside0.mk (blk_below (g := X0) (o := .cells #[.int .i64 0, .int .i64 0, .int .i64 0, .int .i64 0, .int .i64 0, .int .i64 0, .int .i64 0, .int .i64 0, .int .i64 0, .int .i64 0] 29 (0, 0)) (by (with_reducible repeat (first | refine qqd ?_ _ | refine qqf ?_ | refine qqe ?_ _)); refine qql ?_ Q2.out _; (with_reducible repeat (first | refine qqd ?_ _ | refine qqf ?_ | refine qqe ?_ _)); refine qql ?_ Q2.out _; (with_reducible repeat (first | refine qqd ?_ _ | refine qqf ?_ | refine qqe ?_ _)); refine qql ?_ Q2.out _; (with_reducible repeat (first | refine qqd ?_ _ | refine qqf ?_ | refine qqe ?_ _)); refine qql ?_ Q2.out _; (with_reducible repeat (first | refine qqd ?_ _ | refine qqf ?_ | refine qqe ?_ _)); refine qql ?_ Q2.out _; (with_reducible repeat (first | refine qqd ?_ _ | refine qqf ?_ | refine qqe ?_ _)); refine qql ?_ Q2.out _; (with_reducible repeat (first | refine qqd ?_ _ | refine qqf ?_ | refine qqe ?_ _)); refine qql ?_ Qc.out _; (with_reducible repeat (first | refine qqd ?_ _ | refine qqf ?_ | refine qqe ?_ _)); refine qql ?_ Qc.out _; (with_reducible repeat (first | refine qqd ?_ _ | refine qqf ?_ | refine qqe ?_ _)); refine qql ?_ Qc.out _; (with_reducible repeat (first | refine qqd ?_ _ | refine qqf ?_ | refine qqe ?_ _)); refine qql ?_ Qc.out _; (with_reducible repeat (first | refine qqd ?_ _ | refine qqf ?_ | refine qqe ?_ _)); refine qql ?_ Qc.out _; (with_reducible repeat (first | refine qqd ?_ _ | refine qqf ?_ | refine qqe ?_ _)); refine qql ?_ Qc.out _; (with_reducible repeat (first | refine qqd ?_ _ | refine qqf ?_ | refine qqe ?_ _)); exact Q6.out) hb); replace Q4 := Aside0.mk (blk_below (g := Q9) (o := .cells #[.int .i64 (rd Q0 0), .int .i64 (rd Q0 1), .int .i64 (rd Q0 2), .int .i64 (rd Q0 3), .int .i64 Qg, .int .i64 Qi, .int .i64 Qk, .int .i64 Qm, .int .i64 Qq, .int .i64 Qu] 29 (0, 0)) (by (with_reducible repeat (first | refine qqd ?_ _ | refine qqf ?_ | refine qqe ?_ _)); refine qqv (cs := #[.int .i64 (rd Q0 0), .int .i64 (rd Q0 1), .int .i64 (rd Q0 2), .int .i64 (rd Q0 3), .int .i64 Qg, .int .i64 Qi, .int .i64 Qk, .int .i64 Qm, .int .i64 Qq, .int .i64 0]) ?_ 9 _ rfl; (with_reducible repeat (first | refine qqd ?_ _ | refine qqf ?_ | refine qqe ?_ _)); refine qqv (cs := #[.int .i64 (rd Q0 0), .int .i64 (rd Q0 1), .int .i64 (rd Q0 2), .int .i64 (rd Q0 3), .int .i64 Qg, .int .i64 Qi, .int .i64 Qk, .int .i64 Qm, .int .i64 0, .int .i64 0]) ?_ 8 _ rfl; (with_reducible repeat (first | refine qqd ?_ _ | refine qqf ?_ | refine qqe ?_ _)); refine qqv (cs := #[.int .i64 (rd Q0 0), .int .i64 (rd Q0 1), .int .i64 (rd Q0 2), .int .i64 (rd Q0 3), .int .i64 Qg, .int .i64 Qi, .int .i64 Qk, .int .i64 0, .int .i64 0, .int .i64 0]) ?_ 7 _ rfl; (with_reducible repeat (first | refine qqd ?_ _ | refine qqf ?_ | refine qqe ?_ _)); refine qqv (cs := #[.int .i64 (rd Q0 0), .int .i64 (rd Q0 1), .int .i64 (rd Q0 2), .int .i64 (rd Q0 3), .int .i64 Qg, .int .i64 Qi, .int .i64 0, .int .i64 0, .int .i64 0, .int .i64 0]) ?_ 6 _ rfl; (with_reducible repeat (first | refine qqd ?_ _ | refine qqf ?_ | refine qqe ?_ _)); refine qqv (cs := #[.int .i64 (rd Q0 0), .int .i64 (rd Q0 1), .int .i64 (rd Q0 2), .int .i64 (rd Q0 3), .int .i64 Qg, .int .i64 0, .int .i64 0, .int .i64 0, .int .i64 0, .int .i64 0]) ?_ 5 _ rfl; (with_reducible repeat (first | refine qqd ?_ _ | refine qqf ?_ | refine qqe ?_ _)); refine qqv (cs := #[.int .i64 (rd Q0 0), .int .i64 (rd Q0 1), .int .i64 (rd Q0 2), .int .i64 (rd Q0 3), .int .i64 0, .int .i64 0, .int .i64 0, .int .i64 0, .int .i64 0, .int .i64 0]) ?_ 4 _ rfl; (with_reducible repeat (first | refine qqd ?_ _ | refine qqf ?_ | refine qqe ?_ _)); refine qql ?_ Qd.out _; (with_reducible repeat (first | refine qqd ?_ _ | refine qqf ?_ | refine qqe ?_ _)); refine qql ?_ Qd.out _; (with_reducible repeat (first | refine qqd ?_ _ | refine qqf ?_ | refine qqe ?_ _)); refine qql ?_ Qd.out _; (with_reducible repeat (first | refine qqd ?_ _ | refine qqf ?_ | refine qqe ?_ _)); refine qql ?_ Qd.out _; (with_reducible repeat (first | refine qqd ?_ _ | refine qqf ?_ | refine qqe ?_ _)); refine qql ?_ Qd.out _; (with_reducible repeat (first | refine qqd ?_ _ | refine qqf ?_ | refine qqe ?_ _)); refine qql ?_ Qd.out _; (with_reducible repeat (first | refine qqd ?_ _ | refine qqf ?_ | refine qqe ?_ _)); exact Q4.out) hb); replace Qt := Aside0.mk (blk_below (g := gb357) (o := .cells #[.int .i64 Qg, .int .i64 Qi, .int .i64 Qk, .int .i64 Qm, .int .i64 Qq, .int .i64 Qu] 27 (0, 0)) (by (with_reducible repeat (first | refine qqd ?_ _ | refine qqf ?_ | refine qqe ?_ _)); refine qql ?_ Qe.out _; (with_reducible repeat (first | refine qqd ?_ _ | refine qqf ?_ | refine qqe ?_ _)); refine qql ?_ Qe.out _; (with_reducible repeat (first | refine qqd ?_ _ | refine qqf ?_ | refine qqe ?_ _)); refine qql ?_ Qe.out _; (with_reducible repeat (first | refine qqd ?_ _ | refine qqf ?_ | refine qqe ?_ _)); refine qql ?_ Qe.out _; (with_reducible repeat (first | refine qqd ?_ _ | refine qqf ?_ | refine qqe ?_ _)); refine qql ?_ Qe.out _; (with_reducible repeat (first | refine qqd ?_ _ | refine qqf ?_ | refine qqe ?_ _)); refine qql ?_ Qe.out _; (with_reducible repeat (first | refine qqd ?_ _ | refine qqf ?_ | refine qqe ?_ _)); refine qqv (cs := #[.int .i64 Qg, .int .i64 Qi, .int .i64 Qk, .int .i64 Qm, .int .i64 Qq, .int .i64 0]) ?_ 5 _ rfl; (with_reducible repeat (first | refine qqd ?_ _ | refine qqf ?_ | refine qqe ?_ _)); refine qqv (cs := #[.int .i64 Qg, .int .i64 Qi, .int .i64 Qk, .int .i64 Qm, .int .i64 0, .int .i64 0]) ?_ 4 _ rfl; (with_reducible repeat (first | refine qqd ?_ _ | refine qqf ?_ | refine qqe ?_ _)); refine qqv (cs := #[.int .i64 Qg, .int .i64 Qi, .int .i64 Qk, .int .i64 0, .int .i64 0, .int .i64 0]) ?_ 3 _ rfl; (with_reducible repeat (first | refine qqd ?_ _ | refine qqf ?_ | refine qqe ?_ _)); refine qqv (cs := #[.int .i64 Qg, .int .i64 Qi, .int .i64 0, .int .i64 0, .int .i64 0, .int .i64 0]) ?_ 2 _ rfl; (with_reducible repeat (first | refine qqd ?_ _ | refine qqf ?_ | refine qqe ?_ _)); refine qqv (cs := #[.int .i64 Qg, .int .i64 0, .int .i64 0, .int .i64 0, .int .i64 0, .int .i64 0]) ?_ 1 _ rfl; (with_reducible repeat (first | refine qqd ?_ _ | refine qqf ?_ | refine qqe ?_ _)); refine qqv (cs := #[.int .i64 0, .int .i64 0, .int .i64 0, .int .i64 0, .int .i64 0, .int .i64 0]) ?_ 0 _ rfl; (with_reducible repeat (first | refine qqd ?_ _ | refine qqf ?_ | refine qqe ?_ _)); exact Qt.out) hb); replace HB := bst HB hb; (try clear hb); have hnb80 := Qf.out; have hnc80 := Q5.out; obtain ⟨_, _, _, _, _, _, _, _, _, _⟩ := qqz Q6.out; obtain ⟨_, _, _, _, _, _, _, _, _, _⟩ := qqx Q6.out; obtain ⟨_, _, _, _, _, _, _, _, _, _⟩ := qqz Q3.out; obtain ⟨_, _, _, _, _, _, _, _, _, _⟩ := qqx Q3.out))
               refine bodyPost_ret (results_ct rfl _ _ Qn 29 #[.int .i64 0, .int .i64 0, .int .i64 0, .int .i64 0, .int .i64 0, .int .i64 0, .int .i64 0, .int .i64 0, .int .i64 0, .int .i64 0] (0, 0) _ rfl (by exact bput10 Q3.out) Tryd.underlying29 rfl (by kernel_rfl)) rfl ?_
               exact ⟨by first | rfl | (simp [qqk, qqj] <;> rfl) | (simp [*, qqk, qqj] <;> rfl), by repeat (first | (with_reducible first | exact HB.out | apply qqc | apply qqa | apply qqb | refine qqg ?_ GE334.out | refine qqg ?_ GE335.out | refine qqg ?_ GE348.out | refine qqg ?_ GE357.out) | exact HB.out)⟩
             ·rw [if_neg c50] at H
              have c50b0 : (t356 == 0) = false := beq_eq_false_iff_ne.mpr c50
              have c50b1 : (t356 != 0) = true := bne_iff_ne.mpr c50
              simp only [Option.some.injEq, Prod.mk.injEq] at H
              obtain ⟨rfl, rfl, rfl, rfl, rfl, rfl, rfl, rfl, rfl, rfl, rfl⟩ := H
              have hnb83 := Qa.out
              have hnc83 := Q1.out
              have hnb84 := Qb.out
              have hnc84 := Q2.out
              obtain ⟨_, _, _, _, _, _, _, _, _, _⟩ := qqz Q4.out
              obtain ⟨_, _, _, _, _, _, _, _, _, _⟩ := qqx Q4.out
              obtain ⟨i086, hi086, _, hsz86, _⟩ := info_parts info5
              obtain ⟨A86, hcut86, hA86, hC86⟩ := print_drop_of (P := Tryd.prog) (Value.int .u8) 0 31 5 .i64 Tryd.underlying31 hi086 hsz86 A0 c0 l0 Qj (of_decide_eq_true (by first | (with_reducible assumption) | assumption)) (of_decide_eq_true (by first | (with_reducible assumption) | assumption)) HC0.out
              have HR349 := Aside0.mk (Kd.C_of_reads (h1 := fun _ => rfl) (hA86 _ (Kd.reads_of_C HR0.out)))
              have HC349 := Aside0.mk hC86
              clear hA86 hC86 hi086 hsz86
              go_wp2_with (first | ((with_reducible refine qqo (f := 41) rfl ?_); refine goesL_ (some 61) rfl rfl Tryd.func41 (by kernel_rfl) rfl #[.slice A86 (l0.drop (Qj : Int).toNat).length (c0 - Qj.toNat)] rfl (by (try simp only [List.map_toArray, List.map_cons, List.map_nil]); first | done | (rw [show (l0.drop (Qj : Int).toNat).length = (l0.length - Qj.toNat) from List.length_drop] <;> rfl) | rfl | (simp only [List.length_drop, List.length_take]; rfl)) ?_; (with_reducible refine (wayfinderref04_Get.calls kj7 _ _ (l0.drop (Qj : Int).toNat) Qg Qi Qk Qm Qq Qu t356 _ ?side1 ?side2 A49.out).mono ?_); (case side1 => repeat (first | exact (Kd.C_below HR349.out HB.out) | (with_reducible refine Kd.C_alloc ?_ _) | (with_reducible refine Kd.C_drewN ?_ _) | (with_reducible refine Kd.C_drew ?_))); (case side2 => exact HC349.out); rintro e w87 ⟨rfl, hb⟩; refine ⟨_, rfl, ?_⟩; replace Q3 := bbl Q3 hb; replace Q6 := bbl Q6 hb; replace Q4 := bbl Q4 hb; replace HB := bst HB hb; (try clear hb)) | ((with_reducible refine qqr (N := 10) rfl ?_); refine qqw ?hg (N := 10) ?hd (cs := #[.int .i64 0, .int .i64 0, .int .i64 0, .int .i64 0, .int .i64 0, .int .i64 0]) (t := 27) ?hr ?_; (case hd => rfl); (case hg => rfl); (case hr => first | (go_simp; done) | (go_simp; rfl)); intro gb357 hg w88 hbox hb; have n0_ := bbl Q3 hb; have n1_ := bbl Q6 hb; have n2_ := bbl Q4 hb; have n3_ := bst HB hb; have n4_ := Aside0.mk (hbox); have n5_ := szl HB hg; have n6_ := szl HB hg; have n7_ := nel Q3 hg; have n8_ := ner Q3 hg; have n9_ := nel Q6 hg; have n10_ := ner Q6 hg; have n11_ := nel Q4 hg; have n12_ := ner Q4 hg; clear Q3; clear Q6; clear Q4; clear HB; have Q3 := n0_; have Q6 := n1_; have Q4 := n2_; have HB := n3_; have Qt := n4_; have GW357 := n5_; have GE357 := n6_; have Q8 := n7_; have Qr := n8_; have Qc := n9_; have Qs := n10_; have Qd := n11_; have Qe := n12_; clear n0_ n1_ n2_ n3_ n4_ n5_ n6_ n7_ n8_ n9_ n10_ n11_ n12_; clear hb hbox hg; have hnb89 := Qr.out; have hnc89 := Q8.out; have hnb90 := Qs.out; have hnc90 := Qc.out; have hnb91 := Qe.out; have hnc91 := Qd.out; obtain ⟨_, _, _, _, _, _⟩ := bcells6 Qt.out; obtain ⟨_, _, _, _, _, _⟩ := bfrozen6 Qt.out; have hnb93 := Qf.out; have hnc93 := Q5.out; obtain ⟨_, _, _, _, _, _, _, _, _, _⟩ := qqz Q6.out; obtain ⟨_, _, _, _, _, _, _, _, _, _⟩ := qqx Q6.out; obtain ⟨_, _, _, _, _, _, _, _, _, _⟩ := qqz Q3.out; obtain ⟨_, _, _, _, _, _, _, _, _, _⟩ := qqx Q3.out))
              refine bodyPost_ret (results_ct rfl _ _ Qn 29 #[.int .i64 0, .int .i64 0, .int .i64 0, .int .i64 0, .int .i64 0, .int .i64 0, .int .i64 0, .int .i64 0, .int .i64 0, .int .i64 0] (0, 0) _ rfl (by (with_reducible repeat (first | refine qqd ?_ _ | refine qqf ?_ | refine qqe ?_ _)); refine qqv (cs := #[.int .i64 0, .int .i64 0, .int .i64 0, .int .i64 0, .int .i64 0, .int .i64 0, .int .i64 0, .int .i64 0, .int .i64 0, .int .i64 0]) ?_ 9 _ rfl; (with_reducible repeat (first | refine qqd ?_ _ | refine qqf ?_ | refine qqe ?_ _)); refine qqv (cs := #[.int .i64 0, .int .i64 0, .int .i64 0, .int .i64 0, .int .i64 0, .int .i64 0, .int .i64 0, .int .i64 0, .int .i64 0, .int .i64 0]) ?_ 8 _ rfl; (with_reducible repeat (first | refine qqd ?_ _ | refine qqf ?_ | refine qqe ?_ _)); refine qqv (cs := #[.int .i64 0, .int .i64 0, .int .i64 0, .int .i64 0, .int .i64 0, .int .i64 0, .int .i64 0, .int .i64 0, .int .i64 0, .int .i64 0]) ?_ 7 _ rfl; (with_reducible repeat (first | refine qqd ?_ _ | refine qqf ?_ | refine qqe ?_ _)); refine qqv (cs := #[.int .i64 0, .int .i64 0, .int .i64 0, .int .i64 0, .int .i64 0, .int .i64 0, .int .i64 0, .int .i64 0, .int .i64 0, .int .i64 0]) ?_ 6 _ rfl; (with_reducible repeat (first | refine qqd ?_ _ | refine qqf ?_ | refine qqe ?_ _)); refine qqv (cs := #[.int .i64 0, .int .i64 0, .int .i64 0, .int .i64 0, .int .i64 0, .int .i64 0, .int .i64 0, .int .i64 0, .int .i64 0, .int .i64 0]) ?_ 5 _ rfl; (with_reducible repeat (first | refine qqd ?_ _ | refine qqf ?_ | refine qqe ?_ _)); refine qqv (cs := #[.int .i64 0, .int .i64 0, .int .i64 0, .int .i64 0, .int .i64 0, .int .i64 0, .int .i64 0, .int .i64 0, .int .i64 0, .int .i64 0]) ?_ 4 _ rfl; (with_reducible repeat (first | refine qqd ?_ _ | refine qqf ?_ | refine qqe ?_ _)); refine qqv (cs := #[.int .i64 0, .int .i64 0, .int .i64 0, .int .i64 0, .int .i64 0, .int .i64 0, .int .i64 0, .int .i64 0, .int .i64 0, .int .i64 0]) ?_ 3 _ rfl; (with_reducible repeat (first | refine qqd ?_ _ | refine qqf ?_ | refine qqe ?_ _)); refine qqv (cs := #[.int .i64 0, .int .i64 0, .int .i64 0, .int .i64 0, .int .i64 0, .int .i64 0, .int .i64 0, .int .i64 0, .int .i64 0, .int .i64 0]) ?_ 2 _ rfl; (with_reducible repeat (first | refine qqd ?_ _ | refine qqf ?_ | refine qqe ?_ _)); refine qqv (cs := #[.int .i64 0, .int .i64 0, .int .i64 0, .int .i64 0, .int .i64 0, .int .i64 0, .int .i64 0, .int .i64 0, .int .i64 0, .int .i64 0]) ?_ 1 _ rfl; (with_reducible repeat (first | refine qqd ?_ _ | refine qqf ?_ | refine qqe ?_ _)); refine qqv (cs := #[.int .i64 0, .int .i64 0, .int .i64 0, .int .i64 0, .int .i64 0, .int .i64 0, .int .i64 0, .int .i64 0, .int .i64 0, .int .i64 0]) ?_ 0 _ rfl; (with_reducible repeat (first | refine qqd ?_ _ | refine qqf ?_ | refine qqe ?_ _)); refine qql ?_ Q8.out _; (with_reducible repeat (first | refine qqd ?_ _ | refine qqf ?_ | refine qqe ?_ _)); refine qql ?_ Q8.out _; (with_reducible repeat (first | refine qqd ?_ _ | refine qqf ?_ | refine qqe ?_ _)); refine qql ?_ Q8.out _; (with_reducible repeat (first | refine qqd ?_ _ | refine qqf ?_ | refine qqe ?_ _)); refine qql ?_ Q8.out _; (with_reducible repeat (first | refine qqd ?_ _ | refine qqf ?_ | refine qqe ?_ _)); refine qql ?_ Q8.out _; (with_reducible repeat (first | refine qqd ?_ _ | refine qqf ?_ | refine qqe ?_ _)); refine qql ?_ Q8.out _; (with_reducible repeat (first | refine qqd ?_ _ | refine qqf ?_ | refine qqe ?_ _)); exact Q3.out) Tryd.underlying29 rfl (by kernel_rfl)) rfl ?_
              exact ⟨by first | rfl | (simp [qqk, qqj] <;> rfl) | (simp [*, qqk, qqj] <;> rfl), by repeat (first | (with_reducible first | exact HB.out | apply qqc | apply qqa | apply qqb | refine qqg ?_ GE334.out | refine qqg ?_ GE335.out | refine qqg ?_ GE348.out | refine qqg ?_ GE357.out) | exact HB.out)⟩
            ·rw [if_neg c48] at H
             exact absurd H (by simp)
           ·rw [if_neg c47] at H
            exact absurd H (by simp)
          ·rw [if_neg c46] at H
           have c46b0 : ((rd Q0 0) == 2) = false := beq_eq_false_iff_ne.mpr c46
           have c46b1 : ((rd Q0 0) != 2) = true := bne_iff_ne.mpr c46
           replace H := Option.bind_eq_some_iff.mp H
           obtain ⟨t359, A960, H⟩ := H
           replace H : (if t359 = true then (some ((rd Q0 0), (rd Q0 1), (rd Q0 2), (rd Q0 3), 0, 0, 0, 0, 0, 0, 0)) else (some (0, 0, 0, 0, 0, 0, 0, 0, 0, 0, 2))) = some (r1, r2, r3, r4, r5, r6, r7, r8, r9, r10, r11) := H
           have A96 := Aside0.mk A960
           clear A960
           by_cases c97 : t359 = true
           ·subst c97
            have H1 : (some ((rd Q0 0), (rd Q0 1), (rd Q0 2), (rd Q0 3), 0, 0, 0, 0, 0, 0, 0)) = some (r1, r2, r3, r4, r5, r6, r7, r8, r9, r10, r11) := by rw [if_pos rfl] at H; exact H
            clear H
            have H := H1
            clear H1
            simp only [Option.some.injEq, Prod.mk.injEq] at H
            obtain ⟨rfl, rfl, rfl, rfl, rfl, rfl, rfl, rfl, rfl, rfl, rfl⟩ := H
            have hnb98 := Qa.out
            have hnc98 := Q1.out
            have hnb99 := Qb.out
            have hnc99 := Q2.out
            obtain ⟨_, _, _, _, _, _, _, _, _, _⟩ := qqz Q4.out
            obtain ⟨_, _, _, _, _, _, _, _, _, _⟩ := qqx Q4.out
            go_wp2_with (first | ((with_reducible refine qqo (f := 34) rfl ?_); refine goesL_ (some 70) rfl rfl Tryd.func34 (by kernel_rfl) rfl #[.agg #[.int .i64 (rd Q0 0), .int .i64 (rd Q0 1), .int .i64 (rd Q0 2), .int .i64 (rd Q0 3), .int .i64 0, .int .i64 0, .int .i64 0, .int .i64 0, .int .i64 0, .int .i64 0]] rfl (by (try simp only [List.map_toArray, List.map_cons, List.map_nil]); first | done | rfl | (simp only [List.length_drop, List.length_take]; rfl)) ?_; (with_reducible refine (wayfinderref05_May.calls kj7 (rd Q0 0) (rd Q0 1) (rd Q0 2) (rd Q0 3) 0 0 0 0 0 0 true _ A96.out).mono ?_); rintro e w101 ⟨rfl, hb⟩; refine ⟨_, rfl, ?_⟩; replace Q3 := bbl Q3 hb; replace Q6 := bbl Q6 hb; replace Q4 := bbl Q4 hb; replace HB := bst HB hb; (try clear hb); obtain ⟨_, _, _, _, _, _, _, _, _, _⟩ := qqz Q4.out; obtain ⟨_, _, _, _, _, _, _, _, _, _⟩ := qqx Q4.out; have hnb103 := Q5.out; have hnc103 := Qf.out; obtain ⟨_, _, _, _, _, _, _, _, _, _⟩ := qqz Q3.out; obtain ⟨_, _, _, _, _, _, _, _, _, _⟩ := qqx Q3.out))
            refine bodyPost_ret (results_ct rfl _ _ Qn 29 #[.int .i64 (rd Q0 0), .int .i64 (rd Q0 1), .int .i64 (rd Q0 2), .int .i64 (rd Q0 3), .int .i64 0, .int .i64 0, .int .i64 0, .int .i64 0, .int .i64 0, .int .i64 0] (0, 0) _ rfl (by exact bput10 Q3.out) Tryd.underlying29 rfl (by kernel_rfl)) rfl ?_
            exact ⟨by first | rfl | (simp [qqk, qqj] <;> rfl) | (simp [*, qqk, qqj] <;> rfl), by repeat (first | (with_reducible first | exact HB.out | apply qqc | apply qqa | apply qqb | refine qqg ?_ GE334.out | refine qqg ?_ GE335.out | refine qqg ?_ GE348.out) | exact HB.out)⟩
           ·replace c97 := Bool.eq_false_iff.mpr c97
            subst c97
            have H1 : (some (0, 0, 0, 0, 0, 0, 0, 0, 0, 0, 2)) = some (r1, r2, r3, r4, r5, r6, r7, r8, r9, r10, r11) := by rw [if_neg (show ¬ (false = true) by decide)] at H; exact H
            clear H
            have H := H1
            clear H1
            simp only [Option.some.injEq, Prod.mk.injEq] at H
            obtain ⟨rfl, rfl, rfl, rfl, rfl, rfl, rfl, rfl, rfl, rfl, rfl⟩ := H
            have hnb105 := Qa.out
            have hnc105 := Q1.out
            have hnb106 := Qb.out
            have hnc106 := Q2.out
            obtain ⟨_, _, _, _, _, _, _, _, _, _⟩ := qqz Q4.out
            obtain ⟨_, _, _, _, _, _, _, _, _, _⟩ := qqx Q4.out
            go_wp2_with (first | ((with_reducible refine qqo (f := 34) rfl ?_); refine goesL_ (some 70) rfl rfl Tryd.func34 (by kernel_rfl) rfl #[.agg #[.int .i64 (rd Q0 0), .int .i64 (rd Q0 1), .int .i64 (rd Q0 2), .int .i64 (rd Q0 3), .int .i64 0, .int .i64 0, .int .i64 0, .int .i64 0, .int .i64 0, .int .i64 0]] rfl (by (try simp only [List.map_toArray, List.map_cons, List.map_nil]); first | done | rfl | (simp only [List.length_drop, List.length_take]; rfl)) ?_; (with_reducible refine (wayfinderref05_May.calls kj7 (rd Q0 0) (rd Q0 1) (rd Q0 2) (rd Q0 3) 0 0 0 0 0 0 false _ A96.out).mono ?_); rintro e w108 ⟨rfl, hb⟩; refine ⟨_, rfl, ?_⟩; replace Q3 := bbl Q3 hb; replace Q6 := bbl Q6 hb; replace Q4 := bbl Q4 hb; replace HB := bst HB hb; (try clear hb); have hnb109 := Qf.out; have hnc109 := Q5.out; obtain ⟨_, _, _, _, _, _, _, _, _, _⟩ := qqz Q6.out; obtain ⟨_, _, _, _, _, _, _, _, _, _⟩ := qqx Q6.out; obtain ⟨_, _, _, _, _, _, _, _, _, _⟩ := qqz Q3.out; obtain ⟨_, _, _, _, _, _, _, _, _, _⟩ := qqx Q3.out))
            refine bodyPost_ret (results_ct rfl _ _ Qn 29 #[.int .i64 0, .int .i64 0, .int .i64 0, .int .i64 0, .int .i64 0, .int .i64 0, .int .i64 0, .int .i64 0, .int .i64 0, .int .i64 0] (0, 0) _ rfl (by exact bput10 Q3.out) Tryd.underlying29 rfl (by kernel_rfl)) rfl ?_
            exact ⟨by first | rfl | (simp [qqk, qqj] <;> rfl) | (simp [*, qqk, qqj] <;> rfl), by repeat (first | (with_reducible first | exact HB.out | apply qqc | apply qqa | apply qqb | refine qqg ?_ GE334.out | refine qqg ?_ GE335.out | refine qqg ?_ GE348.out) | exact HB.out)⟩
     ·rw [if_neg c7] at H
      exact absurd H (by simp)
    ·rw [if_neg c6] at H
     exact absurd H (by simp)
   ·rw [if_neg c5] at H
    exact absurd H (by simp)
  ·rw [if_neg c4] at H
   exact absurd H (by simp)
 ·rw [if_neg c3] at H
  have c3b0 : (t341 == 0) = false := beq_eq_false_iff_ne.mpr c3
  have c3b1 : (t341 != 0) = true := bne_iff_ne.mpr c3
  simp only [Option.some.injEq, Prod.mk.injEq] at H
  obtain ⟨rfl, rfl, rfl, rfl, rfl, rfl, rfl, rfl, rfl, rfl, rfl⟩ := H
  go_enter Tryd.func29, Tryd.ntmps29
  go_wp2_with (first | ((with_reducible refine qqr (N := 2) rfl ?_); refine qqw ?hg (N := 2) ?hd (cs := #[.int .i64 0, .int .i64 0, .int .i64 0, .int .i64 0, .int .i64 0, .int .i64 0, .int .i64 0, .int .i64 0, .int .i64 0, .int .i64 0]) (t := 29) ?hr ?_; (case hd => rfl); (case hg => rfl); (case hr => first | (go_simp; done) | (go_simp; rfl)); intro Qn hg w112 hbox hb; have n0_ := bst HB hb; have n1_ := Aside0.mk (hbox); have n2_ := szl HB hg; have n3_ := szl HB hg; clear HB; have HB := n0_; have Q3 := n1_; have GW334 := n2_; have GE334 := n3_; clear n0_ n1_ n2_ n3_; clear hb hbox hg) | ((with_reducible refine qqr (N := 4) rfl ?_); refine qqw ?hg (N := 4) ?hd (cs := #[.int .i64 0, .int .i64 0, .int .i64 0, .int .i64 0, .int .i64 0, .int .i64 0, .int .i64 0, .int .i64 0, .int .i64 0, .int .i64 0]) (t := 29) ?hr ?_; (case hd => rfl); (case hg => rfl); (case hr => first | (go_simp; done) | (go_simp; rfl)); intro X0 hg w113 hbox hb; have n0_ := bbl Q3 hb; have n1_ := bst HB hb; have n2_ := Aside0.mk (hbox); have n3_ := szl HB hg; have n4_ := szl HB hg; have n5_ := nel Q3 hg; have n6_ := ner Q3 hg; clear Q3; clear HB; have Q3 := n0_; have HB := n1_; have Q6 := n2_; have GW335 := n3_; have GE335 := n4_; have Q5 := n5_; have Qf := n6_; clear n0_ n1_ n2_ n3_ n4_ n5_ n6_; clear hb hbox hg; have hnb114 := Qf.out; have hnc114 := Q5.out; obtain ⟨_, _, _, _, _, _, _, _, _, _⟩ := qqz Q6.out; obtain ⟨_, _, _, _, _, _, _, _, _, _⟩ := qqx Q6.out) | ((with_reducible refine qqr (N := 16) rfl ?_); refine Kd.R_lit (Kd.int .i64) _ 3 ?hg (N := 16) ?hd (xs := ([1, 3, 3, 2] : List Int)) (inner := [.int .i64 1, .int .i64 3, .int .i64 3, .int .i64 2]) (ok := fun _ => True) (okp := fun _ => True) ?hr ?hp (fun _ hk => hk) trivial (Below.refl _ _) (Nat.le_refl _) (by simp) ?_; (case hd => rfl); (case hg => rfl); (case hr => first | (go_simp; done) | (go_simp; rfl)); (case hp => exact (Reps.one (show Kd.M (Kd.int .i64) _ _ _ 1 [.int .i64 1] from rfl) (Reps.one (show Kd.M (Kd.int .i64) _ _ _ 3 [.int .i64 3] from rfl) (Reps.one (show Kd.M (Kd.int .i64) _ _ _ 3 [.int .i64 3] from rfl) (Reps.one (show Kd.M (Kd.int .i64) _ _ _ 2 [.int .i64 2] from rfl) (Reps.none _ _)))))); intro v337 w116 ho117 hb hg_ hnew_; clear hg_ hnew_; (first | rw [← Ny336.out] at ho117 | (simp only [Int.reduceToNat] at ho117; rw [← Ny336.out] at ho117)); have Qh := Aside0.mk (Kd.R_lower ho117 (qqt (by repeat (first | (with_reducible first | exact HB.out | apply qqc | apply qqa | apply qqb | refine qqg ?_ GE334.out | refine qqg ?_ GE335.out) | exact HB.out)))); replace Q3 := Aside0.mk (blk_below (g := Qn) (o := .cells #[.int .i64 0, .int .i64 0, .int .i64 0, .int .i64 0, .int .i64 0, .int .i64 0, .int .i64 0, .int .i64 0, .int .i64 0, .int .i64 0] 29 (0, 0)) (by (with_reducible repeat (first | refine qqd ?_ _ | refine qqf ?_ | refine qqe ?_ _)); refine qql ?_ Q5.out _; (with_reducible repeat (first | refine qqd ?_ _ | refine qqf ?_ | refine qqe ?_ _)); refine qql ?_ Q5.out _; (with_reducible repeat (first | refine qqd ?_ _ | refine qqf ?_ | refine qqe ?_ _)); refine qql ?_ Q5.out _; (with_reducible repeat (first | refine qqd ?_ _ | refine qqf ?_ | refine qqe ?_ _)); refine qql ?_ Q5.out _; (with_reducible repeat (first | refine qqd ?_ _ | refine qqf ?_ | refine qqe ?_ _)); refine qql ?_ Q5.out _; (with_reducible repeat (first | refine qqd ?_ _ | refine qqf ?_ | refine qqe ?_ _)); refine qql ?_ Q5.out _; (with_reducible repeat (first | refine qqd ?_ _ | refine qqf ?_ | refine qqe ?_ _)); refine qql ?_ Q5.out _; (with_reducible repeat (first | refine qqd ?_ _ | refine qqf ?_ | refine qqe ?_ _)); refine qql ?_ Q5.out _; (with_reducible repeat (first | refine qqd ?_ _ | refine qqf ?_ | refine qqe ?_ _)); refine qql ?_ Q5.out _; (with_reducible repeat (first | refine qqd ?_ _ | refine qqf ?_ | refine qqe ?_ _)); refine qql ?_ Q5.out _; (with_reducible repeat (first | refine qqd ?_ _ | refine qqf ?_ | refine qqe ?_ _)); exact Q3.out) hb); replace Q6 := Aside0.mk (blk_below (g := X0) (o := .cells #[.int .i64 0, .int .i64 0, .int .i64 0, .int .i64 0, .int .i64 0, .int .i64 0, .int .i64 0, .int .i64 0, .int .i64 0, .int .i64 0] 29 (0, 0)) (by exact bput10 Q6.out) hb); replace HB := bst HB hb; clear hb ho117; obtain ⟨Ao118, co118, eo118⟩ := Kd.R_slice Qh.out; subst eo118) | ((with_reducible refine qqo (f := 40) rfl ?_); refine goesL_ (some 17) rfl rfl Tryd.func40 (by kernel_rfl) rfl #[.slice A0 l0.length c0, .slice Ao118 y336.length co118] rfl (by (try simp only [List.map_toArray, List.map_cons, List.map_nil]); first | done | rfl | (simp only [List.length_drop, List.length_take]; rfl)) ?_; (with_reducible refine (wayfinderref02_GetAll.calls k _ _ l0 _ _ y336 Q0 Qj t341 _ ?side1 ?side2 ?side3 ?side4 A2.out).mono ?_); (case side1 => repeat (first | exact (Kd.C_below HR0.out HB.out) | (with_reducible refine Kd.C_alloc ?_ _) | (with_reducible refine Kd.C_drewN ?_ _) | (with_reducible refine Kd.C_drew ?_))); (case side2 => exact HC0.out); (case side3 => repeat (first | exact (Kd.R_reads' Qh.out).2.2 | (with_reducible refine Kd.C_alloc ?_ _) | (with_reducible refine Kd.C_drewN ?_ _) | (with_reducible refine Kd.C_drew ?_))); (case side4 => exact (Kd.R_reads' Qh.out).2.1); rintro e w119 ⟨v342, rfl, ho0, hb⟩; refine ⟨_, rfl, ?_⟩; have n0_ := Aside0.mk (Kd.R_elder' (by (with_reducible repeat (first | apply Kd.R_alloc | apply Kd.R_drewN | apply Kd.R_drew)); exact Qh.out) (Kd.R_base ho0) hb); have n1_ := Aside0.mk (Kd.R_lower (Kd.R_new' ho0 (Kd.R_lt (by (with_reducible repeat (first | apply Kd.R_alloc | apply Kd.R_drewN | apply Kd.R_drew)); exact Qh.out))) (qqt (by repeat (first | (with_reducible first | exact HB.out | apply qqc | apply qqa | apply qqb | refine qqg ?_ GE334.out | refine qqg ?_ GE335.out) | exact HB.out)))); have n2_ := bbl Q3 hb; have n3_ := bbl Q6 hb; have n4_ := bst HB hb; clear Qh; clear Q3; clear Q6; clear HB; have Qh := n0_; have Qp := n1_; have Q3 := n2_; have Q6 := n3_; have HB := n4_; clear n0_ n1_ n2_ n3_ n4_; (try clear hb); (try clear hk); (try clear ho0); obtain ⟨_, _, _, _, _, _, _, _, _, _⟩ := qqz Q6.out; obtain ⟨_, _, _, _, _, _, _, _, _, _⟩ := qqx Q6.out; obtain ⟨_, _, _, _, _, _, _, _, _, _⟩ := qqz Q3.out; obtain ⟨_, _, _, _, _, _, _, _, _, _⟩ := qqx Q3.out))
  refine bodyPost_ret (results_ct rfl _ _ Qn 29 #[.int .i64 0, .int .i64 0, .int .i64 0, .int .i64 0, .int .i64 0, .int .i64 0, .int .i64 0, .int .i64 0, .int .i64 0, .int .i64 0] (0, 0) _ rfl (by exact bput10 Q3.out) Tryd.underlying29 rfl (by kernel_rfl)) rfl ?_
  exact ⟨by first | rfl | (simp [qqk, qqj] <;> rfl) | (simp [*, qqk, qqj] <;> rfl), by repeat (first | (with_reducible first | exact HB.out | apply qqc | apply qqa | apply qqb | refine qqg ?_ GE334.out | refine qqg ?_ GE335.out) | exact HB.out)⟩
end Go.Proofs.YtpaoofkahhhjaaaDoor.All
