/- Contracts of Go functions that this seat comes to, each with a plain function that tells its answers; conditions: those that each contract names. Written by a program of this session (wip/print) over the print words. -/
import Derived.Test.YtpaoofkahhhjaaaDoorQ5Allx0
import Derived.Test.YtpaoofkahhhjaaaDoorQ5Allx6
import Derived.Test.YtpaoofkahhhjaaaDoorQ5Allx13
import Derived.Test.YtpaoofkahhhjaaaDoorQ5Allx14
namespace Go.Proofs.YtpaoofkahhhjaaaDoor.All
open Go.RowKit Go.Proofs.YtpaoofkahhhjaaaDoorW.PrintWords Go.Proofs.YtpaoofkahhhjaaaDoorW.PrintLast Go.Proofs.YtpaoofkahhhjaaaDoorW.PrintMore
attribute [local go_sem] max2_int min2_int max_two min_two max_three min_three max_four min_four
set_option linter.unusedVariables false
set_option linter.unusedSimpArgs false
def msg_Get.j0 : Nat → List Int → Int → Int → Int → Int → Int → Int → Int → Int → Int → Int → Int → Int → Option (Int × Int × Int × Int × Int × Int × Int × Int × Int × Int × Int)
 | 0, _, _, _, _, _, _, _, _, _, _, _, _, _ => none
 | k + 1, x0, x5, x8, x298000, x298001, x298002, x298003, x298004, x298005, x298006, x298007, x298008, x298009 => if (x0.length : Int) < x8 then (some (0, 0, 0, 0, 0, 0, 0, 0, 0, 0, 3)) else (if (x0.length : Int) > x8 then (some (0, 0, 0, 0, 0, 0, 0, 0, 0, 0, 2)) else (if x8 = 18 then (if 0 ≤ x5 then (if x5 ≤ (x0.length : Int) then ((rule_Get.f k (x0.drop (x5 : Int).toNat)).bind fun Qb => (if Qb.2.2.2.2.2.2 = 0 then ((msg_May.f x298000 x298001 x298002 x298003 Qb.1 Qb.2.1 Qb.2.2.1 Qb.2.2.2.1 Qb.2.2.2.2.1 Qb.2.2.2.2.2.1).bind fun t306 => (if t306 = true then (some (x298000, x298001, x298002, x298003, Qb.1, Qb.2.1, Qb.2.2.1, Qb.2.2.2.1, Qb.2.2.2.2.1, Qb.2.2.2.2.2.1, 0)) else (some (0, 0, 0, 0, 0, 0, 0, 0, 0, 0, 2)))) else (some (0, 0, 0, 0, 0, 0, 0, 0, 0, 0, 2)))) else (none)) else (none)) else ((msg_May.f x298000 x298001 x298002 x298003 x298004 x298005 x298006 x298007 x298008 x298009).bind fun t307 => (if t307 = true then (some (x298000, x298001, x298002, x298003, x298004, x298005, x298006, x298007, x298008, x298009, 0)) else (some (0, 0, 0, 0, 0, 0, 0, 0, 0, 0, 2))))))
def msg_Get.f (k : Nat) (l0 : List Int) : Option (Int × Int × Int × Int × Int × Int × Int × Int × Int × Int × Int) := (octets_GetAll.f k l0 (([1, 3, 3, 2] : List Int))).bind fun Q4 => (if Q4.2.2 = 0 then (if 0 < (Q4.1.length : Int) then (if 1 < (Q4.1.length : Int) then (if 2 < (Q4.1.length : Int) then (if 3 < (Q4.1.length : Int) then (if (rd Q4.1 0) = 2 then (msg_Get.j0 k l0 Q4.2.1 18 (rd Q4.1 0) (rd Q4.1 1) (rd Q4.1 2) (rd Q4.1 3) 0 0 0 0 0 0) else (msg_Get.j0 k l0 Q4.2.1 9 (rd Q4.1 0) (rd Q4.1 1) (rd Q4.1 2) (rd Q4.1 3) 0 0 0 0 0 0)) else (none)) else (none)) else (none)) else (none)) else (some (0, 0, 0, 0, 0, 0, 0, 0, 0, 0, Q4.2.2)))
theorem msg_Get.mono_l : ∀ k, (∀ y0 y1 y2 y3 y4 y5 y6 y7 y8 y9 y10 y11 y12, LeO (msg_Get.j0 k y0 y1 y2 y3 y4 y5 y6 y7 y8 y9 y10 y11 y12) (msg_Get.j0 (k + 1) y0 y1 y2 y3 y4 y5 y6 y7 y8 y9 y10 y11 y12))
 | 0 => fun _ _ _ _ _ _ _ _ _ _ _ _ _ r h => by simp [msg_Get.j0] at h
 | k + 1 => by
  have ih0 := msg_Get.mono_l k
  ·intro y0 y1 y2 y3 y4 y5 y6 y7 y8 y9 y10 y11 y12
   unfold msg_Get.j0
   repeat' first
   | (with_reducible exact ih0 _ _ _ _ _ _ _ _ _ _ _ _ _)
   | (with_reducible exact octets_GetAll.mono _ _ _)
   | (with_reducible exact rule_Get.mono _ _)
   | (with_reducible exact LeO.refl _)
   | (with_reducible exact LeO.none _)
   | (with_reducible refine LeO.ite ?_ ?_)
   | (with_reducible refine LeO.bind ?_ (fun _ => ?_))
   | exact ih0 _ _ _ _ _ _ _ _ _ _ _ _ _
   | exact octets_GetAll.mono _ _ _
   | exact rule_Get.mono _ _
   | exact LeO.none _
   | refine LeO.ite ?_ ?_
   | refine LeO.bind ?_ (fun _ => ?_)
theorem msg_Get.mono : ∀ a0 k, LeO (msg_Get.f k a0) (msg_Get.f (k + 1) a0) := by
 intro a0 k
 have ih0 := msg_Get.mono_l k
 unfold msg_Get.f
 repeat' first
   | (with_reducible exact ih0 _ _ _ _ _ _ _ _ _ _ _ _ _)
   | (with_reducible exact octets_GetAll.mono _ _ _)
   | (with_reducible exact rule_Get.mono _ _)
   | (with_reducible exact LeO.refl _)
   | (with_reducible exact LeO.none _)
   | (with_reducible refine LeO.ite ?_ ?_)
   | (with_reducible refine LeO.bind ?_ (fun _ => ?_))
   | exact ih0 _ _ _ _ _ _ _ _ _ _ _ _ _
   | exact octets_GetAll.mono _ _ _
   | exact rule_Get.mono _ _
   | exact LeO.none _
   | refine LeO.ite ?_ ?_
   | refine LeO.bind ?_ (fun _ => ?_)
def msg_Get.T4 : Bool × List (List Nat × List Nat) := (true, [([], []), ([0], [0]), ([1], [1]), ([], []), ([3], [3]), ([4], [4]), ([], []), ([6], [6]), ([7], [7]), ([], []), ([9], [9]), ([10], [10]), ([2, 5, 8, 11], [2, 5, 8, 11]), ([], []), ([13, 12, 0, 1, 2, 3, 4, 5, 6, 7, 8, 9, 10, 11, 12, 13], [12, 13])])
def msg_Get.B4 : List Nat := [0, 1, 3, 0, 8, 24, 0, 64, 192, 0, 512, 1536, 4095, 0, 16383]
theorem msg_Get.tab4 : rtab .any (opsOf Tryd.f28 4) = msg_Get.T4 := by kernel_rfl
theorem msg_Get.bits4 : waitsOk msg_Get.T4.2 msg_Get.B4 = true := by kernel_rfl
set_option maxHeartbeats 8000000 in
set_option maxRecDepth 100000 in
theorem msg_Get.calls (k : Nat) (A0 : Option Addr) (c0 : Nat) (l0 : List Int) (r1 : Int) (r2 : Int) (r3 : Int) (r4 : Int) (r5 : Int) (r6 : Int) (r7 : Int) (r8 : Int) (r9 : Int) (r10 : Int) (r11 : Int) (w : World) (hr0 : Kd.C (Kd.int .u8) w A0 l0.length l0) (hc0 : l0.length ≤ c0) (hG : Glob w) (h : msg_Get.f k l0 = some (r1, r2, r3, r4, r5, r6, r7, r8, r9, r10, r11)) :
  Calls Tryd.prog 28 #[.slice A0 l0.length c0] w fun e w' => e = .returned (.tuple #[.agg #[.int .i64 r1, .int .i64 r2, .int .i64 r3, .int .i64 r4, .int .i64 r5, .int .i64 r6, .int .i64 r7, .int .i64 r8, .int .i64 r9, .int .i64 r10], .int .i64 r11]) ∧ Below w.heap.size w w' := by
 have hu29 := Tryd.underlying29
 have hu27 := Tryd.underlying27
 have HR0 := Aside0.mk hr0
 have HC0 := Aside0.mk hc0
 clear hr0 hc0
 have HB := Aside0.mk (Below.refl w.heap.size w)
 have H : ((octets_GetAll.f k l0 (([1, 3, 3, 2] : List Int))).bind fun Q4 => (if Q4.2.2 = 0 then (if 0 < (Q4.1.length : Int) then (if 1 < (Q4.1.length : Int) then (if 2 < (Q4.1.length : Int) then (if 3 < (Q4.1.length : Int) then (if (rd Q4.1 0) = 2 then (msg_Get.j0 k l0 Q4.2.1 18 (rd Q4.1 0) (rd Q4.1 1) (rd Q4.1 2) (rd Q4.1 3) 0 0 0 0 0 0) else (msg_Get.j0 k l0 Q4.2.1 9 (rd Q4.1 0) (rd Q4.1 1) (rd Q4.1 2) (rd Q4.1 3) 0 0 0 0 0 0)) else (none)) else (none)) else (none)) else (none)) else (some (0, 0, 0, 0, 0, 0, 0, 0, 0, 0, Q4.2.2)))) = some (r1, r2, r3, r4, r5, r6, r7, r8, r9, r10, r11) := h
 clear h
 obtain ⟨y285, hy285⟩ : ∃ y_ : List Int, y_ = (([1, 3, 3, 2] : List Int)) := ⟨_, rfl⟩
 replace H : ((octets_GetAll.f k l0 y285).bind fun Q4 => (if Q4.2.2 = 0 then (if 0 < (Q4.1.length : Int) then (if 1 < (Q4.1.length : Int) then (if 2 < (Q4.1.length : Int) then (if 3 < (Q4.1.length : Int) then (if (rd Q4.1 0) = 2 then (msg_Get.j0 k l0 Q4.2.1 18 (rd Q4.1 0) (rd Q4.1 1) (rd Q4.1 2) (rd Q4.1 3) 0 0 0 0 0 0) else (msg_Get.j0 k l0 Q4.2.1 9 (rd Q4.1 0) (rd Q4.1 1) (rd Q4.1 2) (rd Q4.1 3) 0 0 0 0 0 0)) else (none)) else (none)) else (none)) else (none)) else (some (0, 0, 0, 0, 0, 0, 0, 0, 0, 0, Q4.2.2)))) = some (r1, r2, r3, r4, r5, r6, r7, r8, r9, r10, r11) := by first | (rw [hy285]; with_reducible exact H) | (have H2_ := (Option.bind_some _ _).symm.trans H; rw [hy285]; with_reducible exact H2_) | (have H2_ := (Option.bind_some _ _).symm.trans H; with_reducible exact H2_) | with_reducible exact H | (rw [hy285]; exact H) | exact H
 have Ny285 := Aside0.mk hy285
 clear hy285
 replace H := Option.bind_eq_some_iff.mp H
 obtain ⟨⟨Q0, Q8, t292⟩, A20, H⟩ := H
 replace H : (if t292 = 0 then (if 0 < (Q0.length : Int) then (if 1 < (Q0.length : Int) then (if 2 < (Q0.length : Int) then (if 3 < (Q0.length : Int) then (if (rd Q0 0) = 2 then (msg_Get.j0 k l0 Q8 18 (rd Q0 0) (rd Q0 1) (rd Q0 2) (rd Q0 3) 0 0 0 0 0 0) else (msg_Get.j0 k l0 Q8 9 (rd Q0 0) (rd Q0 1) (rd Q0 2) (rd Q0 3) 0 0 0 0 0 0)) else (none)) else (none)) else (none)) else (none)) else (some (0, 0, 0, 0, 0, 0, 0, 0, 0, 0, t292))) = some (r1, r2, r3, r4, r5, r6, r7, r8, r9, r10, r11) := H
 have A2 := Aside0.mk A20
 clear A20
 by_cases c3 : t292 = 0
 ·rw [if_pos c3] at H
  have c3b0 : (t292 == 0) = true := beq_iff_eq.mpr c3
  have c3b1 : (t292 != 0) = false := bne_eq_false_iff_eq.mpr c3
  clear c3
  by_cases c4 : 0 < (Q0.length : Int)
  ·rw [if_pos c4] at H
   have c4b0 : decide (0 < (Q0.length : Int)) = true := decide_eq_true c4
   have c4b1 : decide (0 < Q0.length) = true := decide_eq_true (by omega)
   clear c4
   by_cases c5 : 1 < (Q0.length : Int)
   ·rw [if_pos c5] at H
    have c5b0 : decide (1 < (Q0.length : Int)) = true := decide_eq_true c5
    have c5b1 : decide (1 < Q0.length) = true := decide_eq_true (by omega)
    clear c5
    by_cases c6 : 2 < (Q0.length : Int)
    ·rw [if_pos c6] at H
     have c6b0 : decide (2 < (Q0.length : Int)) = true := decide_eq_true c6
     have c6b1 : decide (2 < Q0.length) = true := decide_eq_true (by omega)
     clear c6
     by_cases c7 : 3 < (Q0.length : Int)
     ·rw [if_pos c7] at H
      have c7b0 : decide (3 < (Q0.length : Int)) = true := decide_eq_true c7
      have c7b1 : decide (3 < Q0.length) = true := decide_eq_true (by omega)
      clear c7
      have HC8 := Aside0.mk H
      clear H
      go_enter Tryd.func28, Tryd.ntmps28
      try go_wp2_with (first | ((with_reducible refine qqs (N := 2) rfl ?_); refine box_event ?hg (N := 2) ?hd (cs := #[.int .i64 0, .int .i64 0, .int .i64 0, .int .i64 0, .int .i64 0, .int .i64 0, .int .i64 0, .int .i64 0, .int .i64 0, .int .i64 0]) (t := 29) ?hr ?_; (case hd => rfl); (case hg => rfl); (case hr => first | (go_simp; done) | (go_simp; rfl)); intro Qe hg w9 hbox hb; have n0_ := bst HB hb; have n1_ := Aside0.mk (hbox); have n2_ := szl HB hg; have n3_ := szl HB hg; clear HB; have HB := n0_; have Q2 := n1_; have GW284 := n2_; have GE284 := n3_; clear n0_ n1_ n2_ n3_; clear hb hbox hg) | ((with_reducible refine qqs (N := 11) rfl ?_); refine Kd.R_lit (Kd.int .i64) _ 3 ?hg (N := 11) ?hd (xs := ([1, 3, 3, 2] : List Int)) (inner := [.int .i64 1, .int .i64 3, .int .i64 3, .int .i64 2]) (ok := fun _ => True) (okp := fun _ => True) ?hr ?hp (fun _ hk => hk) trivial (Below.refl _ _) (Nat.le_refl _) (by simp) ?_; (case hd => rfl); (case hg => rfl); (case hr => first | (go_simp; done) | (go_simp; rfl)); (case hp => exact (Reps.one (show Kd.M (Kd.int .i64) _ _ _ 1 [.int .i64 1] from rfl) (Reps.one (show Kd.M (Kd.int .i64) _ _ _ 3 [.int .i64 3] from rfl) (Reps.one (show Kd.M (Kd.int .i64) _ _ _ 3 [.int .i64 3] from rfl) (Reps.one (show Kd.M (Kd.int .i64) _ _ _ 2 [.int .i64 2] from rfl) (Reps.none _ _)))))); intro v286 w10 ho11 hb hg_ hnew_; clear hg_ hnew_; (first | rw [← Ny285.out] at ho11 | (simp only [Int.reduceToNat] at ho11; rw [← Ny285.out] at ho11)); have Q7 := Aside0.mk (Kd.R_lower ho11 (qqu (by repeat (first | (with_reducible first | exact HB.out | apply qqc | apply qqa | apply qqb | refine qqd ?_ GE284.out) | exact HB.out)))); replace Q2 := bbl Q2 hb; replace HB := bst HB hb; clear hb ho11; obtain ⟨Ao12, co12, eo12⟩ := Kd.R_slice Q7.out; subst eo12) | ((with_reducible refine qqr (f := 38) rfl ?_); refine goesL_ (some 12) rfl rfl Tryd.func38 (by kernel_rfl) rfl #[.slice A0 l0.length c0, .slice Ao12 y285.length co12] rfl (by (try simp only [List.map_toArray, List.map_cons, List.map_nil]); first | done | rfl | (simp only [List.length_drop, List.length_take]; rfl)) ?_; (with_reducible refine (octets_GetAll.calls k (fun k_ => k_ < w.heap.size) _ _ l0 _ _ y285 Q0 Q8 t292 _ ?side1 ?side2 ?side3 A2.out).mono ?_); (case side1 => exact Kd.V_mk HC0.out (Kd.F_below (Kd.C_F (Kd.heap_int .u8) HR0.out) (by repeat (first | (with_reducible first | exact HB.out | apply qqc | apply qqa | apply qqb | refine qqd ?_ GE284.out) | exact HB.out)))); (case side2 => repeat (first | exact (Kd.R_reads' Q7.out).2.2 | (with_reducible refine Kd.C_alloc ?_ _) | (with_reducible refine Kd.C_drewN ?_ _) | (with_reducible refine Kd.C_drew ?_))); (case side3 => exact (Kd.R_reads' Q7.out).2.1); rintro e w13 ⟨v289, rfl, ho0, hb⟩; refine ⟨_, rfl, ?_⟩; have n0_ := Aside0.mk (Kd.R_elder' (by (with_reducible repeat (first | apply Kd.R_alloc | apply Kd.R_drewN | apply Kd.R_drew)); exact Q7.out) (Kd.R_base ho0) hb); have n1_ := Aside0.mk (Kd.R_lower (Kd.R_new' (Kd.R_mono (ok' := fun k_ => True) ho0 (fun _ hk_ => trivial)) (Kd.R_lt (by (with_reducible repeat (first | apply Kd.R_alloc | apply Kd.R_drewN | apply Kd.R_drew)); exact Q7.out))) (qqu (by repeat (first | (with_reducible first | exact HB.out | apply qqc | apply qqa | apply qqb | refine qqd ?_ GE284.out) | exact HB.out)))); have n2_ := bbl Q2 hb; have n3_ := bst HB hb; clear Q7; clear Q2; clear HB; have Q7 := n0_; have Qc := n1_; have Q2 := n2_; have HB := n3_; clear n0_ n1_ n2_ n3_; (try clear hb); (try clear hk); (try clear ho0)))
      replace Q7 := Aside0.mk (Kd.R_drew Q7.out)
      replace Qc := Aside0.mk (Kd.R_drew Qc.out)
      replace Q2 := Aside0.mk (qqk Q2.out)
      replace HB := Aside0.mk (qqb HB.out)
      obtain ⟨Ao15, co15, eo15⟩ := Kd.R_slice Qc.out
      (first | subst eo15 | (injection eo15 with f1_ f2_ f3_; have f4_ := f1_.symm; have f5_ := f3_.symm; clear f1_ f2_ f3_; subst f4_; subst f5_))
      have p293 : 0 ≤ (0 : Int) := (by omega)
      have q293 : 0 < (Q0.length : Int) := of_decide_eq_true (by first | (with_reducible assumption) | assumption)
      obtain ⟨Qh, e293, Qi⟩ := Kd.at_int (Kd.R_reads' Qc.out).2.2 0 p293 q293
      cases e293
      have qi293 : (0 < Q0.length) = True := eq_true (by omega)
      (try rw [show ((0 : Int)).toNat = 0 from rfl] at Qi)
      (try rw [Addr.add_zero'] at Qi)
      replace p293 := eq_true p293
      replace q293 := eq_true q293
      have p294 : 0 ≤ (1 : Int) := (by omega)
      have q294 : 1 < (Q0.length : Int) := of_decide_eq_true (by first | (with_reducible assumption) | assumption)
      obtain ⟨ad294, e294, Qj⟩ := Kd.at_int (Kd.R_reads' Qc.out).2.2 1 p294 q294
      obtain rfl : Qh = ad294 := (by injection e294)
      (try simp only [show (1 : Int).toNat = 1 from rfl, Nat.reduceMul, Nat.reduceEqDiff, Go.Addr.add, ↓reduceIte] at Qj)
      have qi294 : (1 < Q0.length) = True := eq_true (by omega)
      (try rw [show ((1 : Int)).toNat = 1 from rfl] at Qj)
      replace p294 := eq_true p294
      replace q294 := eq_true q294
      have p295 : 0 ≤ (2 : Int) := (by omega)
      have q295 : 2 < (Q0.length : Int) := of_decide_eq_true (by first | (with_reducible assumption) | assumption)
      obtain ⟨ad295, e295, Qk⟩ := Kd.at_int (Kd.R_reads' Qc.out).2.2 2 p295 q295
      obtain rfl : Qh = ad295 := (by injection e295)
      (try simp only [show (2 : Int).toNat = 2 from rfl, Nat.reduceMul, Nat.reduceEqDiff, Go.Addr.add, ↓reduceIte] at Qk)
      have qi295 : (2 < Q0.length) = True := eq_true (by omega)
      (try rw [show ((2 : Int)).toNat = 2 from rfl] at Qk)
      replace p295 := eq_true p295
      replace q295 := eq_true q295
      have p296 : 0 ≤ (3 : Int) := (by omega)
      have q296 : 3 < (Q0.length : Int) := of_decide_eq_true (by first | (with_reducible assumption) | assumption)
      obtain ⟨ad296, e296, Qm⟩ := Kd.at_int (Kd.R_reads' Qc.out).2.2 3 p296 q296
      obtain rfl : Qh = ad296 := (by injection e296)
      (try simp only [show (3 : Int).toNat = 3 from rfl, Nat.reduceMul, Nat.reduceEqDiff, Go.Addr.add, ↓reduceIte] at Qm)
      have qi296 : (3 < Q0.length) = True := eq_true (by omega)
      (try rw [show ((3 : Int)).toNat = 3 from rfl] at Qm)
      replace p296 := eq_true p296
      replace q296 := eq_true q296
      refine start_ (n := 15) (S := fun w' => w'.cell? Qh = some (.int .i64 (rd Q0 0)) ∧ w'.cell? ⟨Qh.block, Qh.off + 1, none⟩ = some (.int .i64 (rd Q0 1)) ∧ w'.cell? ⟨Qh.block, Qh.off + 2, none⟩ = some (.int .i64 (rd Q0 2)) ∧ w'.cell? ⟨Qh.block, Qh.off + 3, none⟩ = some (.int .i64 (rd Q0 3))) (ds := []) #[false, false, false, false, false, false, false, false, false, false, false, false, false, false, false] (by kernel_rfl) rfl rfl ⟨Qi, Qj, Qk, Qm⟩ (fun hHeld => ?_); refine with_tabW msg_Get.tab4 msg_Get.bits4 (fun HT_ HW_ => ?_)
      generalize w13.drew = w14 at Q7 Qc Q2 HB Qi Qj Qk Qm hHeld ⊢
      refine pure_ (i := 0) (N := some 20) (v := ?_) (a' := ?_) #[true, false, false, false, false, false, false, false, false, false, false, false, false, false, false] rfl rfl (qqn HT_.out (by kernel_rfl)) (fun _ _ _ h => h) (Or.inl ⟨by rfl, ?_⟩) ?_ ?_
      rotate_left
      ·intro w'
       go_simp
       with_reducible rfl
      rotate_left
      ·simp only [Act.put, qsA, qsB, qsC, qqo, qqp]
       rfl
      refine pure_ (i := 1) (N := some 21) (v := ?_) (a' := ?_) #[true, true, false, false, false, false, false, false, false, false, false, false, false, false, false] rfl rfl (qqn HT_.out (by kernel_rfl)) (fun _ _ _ h => h) (Or.inl ⟨by rfl, ?_⟩) ?_ ?_
      rotate_left
      ·intro w'
       go_simp
       with_reducible rfl
      rotate_left
      ·simp only [Act.put, qsA, qsB, qsC, qqo, qqp]
       rfl
      refine pure_ (i := 3) (N := some 23) (v := ?_) (a' := ?_) #[true, true, false, true, false, false, false, false, false, false, false, false, false, false, false] rfl rfl (qqn HT_.out (by kernel_rfl)) (fun _ _ _ h => h) (Or.inl ⟨by rfl, ?_⟩) ?_ ?_
      rotate_left
      ·intro w'
       go_simp
       with_reducible rfl
      rotate_left
      ·simp only [Act.put, qsA, qsB, qsC, qqo, qqp]
       rfl
      refine pure_ (i := 4) (N := some 24) (v := ?_) (a' := ?_) #[true, true, false, true, true, false, false, false, false, false, false, false, false, false, false] rfl rfl (qqn HT_.out (by kernel_rfl)) (fun _ _ _ h => h) (Or.inl ⟨by rfl, ?_⟩) ?_ ?_
      rotate_left
      ·intro w'
       go_simp
       with_reducible rfl
      rotate_left
      ·simp only [Act.put, qsA, qsB, qsC, qqo, qqp]
       rfl
      refine pure_ (i := 6) (N := some 26) (v := ?_) (a' := ?_) #[true, true, false, true, true, false, true, false, false, false, false, false, false, false, false] rfl rfl (qqn HT_.out (by kernel_rfl)) (fun _ _ _ h => h) (Or.inl ⟨by rfl, ?_⟩) ?_ ?_
      rotate_left
      ·intro w'
       go_simp
       with_reducible rfl
      rotate_left
      ·simp only [Act.put, qsA, qsB, qsC, qqo, qqp]
       rfl
      refine pure_ (i := 7) (N := some 27) (v := ?_) (a' := ?_) #[true, true, false, true, true, false, true, true, false, false, false, false, false, false, false] rfl rfl (qqn HT_.out (by kernel_rfl)) (fun _ _ _ h => h) (Or.inl ⟨by rfl, ?_⟩) ?_ ?_
      rotate_left
      ·intro w'
       go_simp
       with_reducible rfl
      rotate_left
      ·simp only [Act.put, qsA, qsB, qsC, qqo, qqp]
       rfl
      refine pure_ (i := 9) (N := some 29) (v := ?_) (a' := ?_) #[true, true, false, true, true, false, true, true, false, true, false, false, false, false, false] rfl rfl (qqn HT_.out (by kernel_rfl)) (fun _ _ _ h => h) (Or.inl ⟨by rfl, ?_⟩) ?_ ?_
      rotate_left
      ·intro w'
       go_simp
       with_reducible rfl
      rotate_left
      ·simp only [Act.put, qsA, qsB, qsC, qqo, qqp]
       rfl
      refine pure_ (i := 10) (N := some 30) (v := ?_) (a' := ?_) #[true, true, false, true, true, false, true, true, false, true, true, false, false, false, false] rfl rfl (qqn HT_.out (by kernel_rfl)) (fun _ _ _ h => h) (Or.inl ⟨by rfl, ?_⟩) ?_ ?_
      rotate_left
      ·intro w'
       go_simp
       with_reducible rfl
      rotate_left
      ·simp only [Act.put, qsA, qsB, qsC, qqo, qqp]
       rfl
      refine take_ (i := 2) (N := some 22) (v := ?_) (a' := ?_) #[true, true, true, true, true, false, true, true, false, true, true, false, false, false, false] rfl rfl (take_ofW HT_.out HW_.out (by kernel_rfl)) (fun _ _ _ h => h) (Or.inl ⟨by rfl, ?_⟩) hHeld ?_ ?_
      rotate_left
      ·rintro w' ⟨s0, s1, s2, s3⟩
       go_simp
       with_reducible rfl
      rotate_left
      ·simp only [Act.put, qsA, qsB, qsC, qqo, qqp]
       rfl
      refine take_ (i := 5) (N := some 25) (v := ?_) (a' := ?_) #[true, true, true, true, true, true, true, true, false, true, true, false, false, false, false] rfl rfl (take_ofW HT_.out HW_.out (by kernel_rfl)) (fun _ _ _ h => h) (Or.inl ⟨by rfl, ?_⟩) hHeld ?_ ?_
      rotate_left
      ·rintro w' ⟨s0, s1, s2, s3⟩
       go_simp
       with_reducible rfl
      rotate_left
      ·simp only [Act.put, qsA, qsB, qsC, qqo, qqp]
       rfl
      refine take_ (i := 8) (N := some 28) (v := ?_) (a' := ?_) #[true, true, true, true, true, true, true, true, true, true, true, false, false, false, false] rfl rfl (take_ofW HT_.out HW_.out (by kernel_rfl)) (fun _ _ _ h => h) (Or.inl ⟨by rfl, ?_⟩) hHeld ?_ ?_
      rotate_left
      ·rintro w' ⟨s0, s1, s2, s3⟩
       go_simp
       with_reducible rfl
      rotate_left
      ·simp only [Act.put, qsA, qsB, qsC, qqo, qqp]
       rfl
      refine take_ (i := 11) (N := some 31) (v := ?_) (a' := ?_) #[true, true, true, true, true, true, true, true, true, true, true, true, false, false, false] rfl rfl (take_ofW HT_.out HW_.out (by kernel_rfl)) (fun _ _ _ h => h) (Or.inl ⟨by rfl, ?_⟩) hHeld ?_ ?_
      rotate_left
      ·rintro w' ⟨s0, s1, s2, s3⟩
       go_simp
       with_reducible rfl
      rotate_left
      ·simp only [Act.put, qsA, qsB, qsC, qqo, qqp]
       rfl
      refine pure_ (i := 12) (N := some 32) (v := ?_) (a' := ?_) #[true, true, true, true, true, true, true, true, true, true, true, true, true, false, false] rfl rfl (qqn HT_.out (by kernel_rfl)) (fun _ _ _ h => h) (Or.inl ⟨by rfl, ?_⟩) ?_ ?_
      rotate_left
      ·intro w'
       go_simp
       with_reducible rfl
      rotate_left
      ·simp only [Act.put, qsA, qsB, qsC, qqo, qqp]
       rfl
      refine one_ (i := 13) (N := some 7) #[true, true, true, true, true, true, true, true, true, true, true, true, true, true, false] rfl rfl (one_of HT_.out (by kernel_rfl)) (by decide) (fun K hK => ?_)
      refine box_step ?hg (N := 7) ?hd (cs := #[.int .i64 0, .int .i64 0, .int .i64 0, .int .i64 0, .int .i64 0, .int .i64 0, .int .i64 0, .int .i64 0, .int .i64 0, .int .i64 0]) (t := 29) ?hr ?_; (case hd => rfl); (case hg => rfl); (case hr => first | (go_simp; done) | (go_simp; rfl))
      intro Q5 hg w16 hbox hb
      have HS0_ := (hb.cell (World.block_lt_of_cell? _ _ (hHeld.1))).trans (hHeld.1)
      have HS1_ := (hb.cell (World.block_lt_of_cell? _ _ (hHeld.2.1))).trans (hHeld.2.1)
      have HS2_ := (hb.cell (World.block_lt_of_cell? _ _ (hHeld.2.2.1))).trans (hHeld.2.2.1)
      have HS3_ := (hb.cell (World.block_lt_of_cell? _ _ (hHeld.2.2.2))).trans (hHeld.2.2.2)
      have n0_ := Aside0.mk (Kd.R_below (by (with_reducible repeat (first | apply Kd.R_alloc | apply Kd.R_drewN | apply Kd.R_drew)); exact Q7.out) hb)
      have n1_ := Aside0.mk (Kd.R_below (by (with_reducible repeat (first | apply Kd.R_alloc | apply Kd.R_drewN | apply Kd.R_drew)); exact Qc.out) hb)
      have n2_ := bbl Q2 hb
      have n3_ := bst HB hb
      have n4_ := Aside0.mk (hbox)
      have n5_ := szl HB hg
      have n6_ := szl HB hg
      have n7_ := nel Q2 hg
      have n8_ := ner Q2 hg
      clear Q7
      clear Qc
      clear Q2
      clear HB
      have Q7 := n0_
      have Qc := n1_
      have Q2 := n2_
      have HB := n3_
      have Q3 := n4_
      have GW297 := n5_
      have GE297 := n6_
      have Q1 := n7_
      have Q6 := n8_
      clear n0_ n1_ n2_ n3_ n4_ n5_ n6_ n7_ n8_
      clear hb hbox hg
      refine hK.out _ _ ⟨HS0_, HS1_, HS2_, HS3_⟩ (fun hHeld => ?_)
      clear hK K
      refine norm_ (a' := ?_) ?_ ?_
      rotate_left
      ·show Act.put _ (some 7) _ = _
       simp only [Act.put, qsA, qsB, qsC, qqo, qqp]
       rfl
      refine one_ (i := 14) (N := none) #[true, true, true, true, true, true, true, true, true, true, true, true, true, true, true] rfl rfl (one_of HT_.out (by kernel_rfl)) (by decide) (fun K hK => ?_)
      have hs17 : w16.cell? ⟨Q5, 0, none⟩ = some (.int .i64 0) := (qql Q3.out 0).trans rfl
      have hfs17 := qqe Q3.out 0
      have hns17_0 := Q1.out
      have hms17_0 := Q6.out
      have hs18 : w16.cell? ⟨Q5, 1, none⟩ = some (.int .i64 0) := (qql Q3.out 1).trans rfl
      have hfs18 := qqe Q3.out 1
      have hns18_0 := Q1.out
      have hms18_0 := Q6.out
      have hs19 : w16.cell? ⟨Q5, 2, none⟩ = some (.int .i64 0) := (qql Q3.out 2).trans rfl
      have hfs19 := qqe Q3.out 2
      have hns19_0 := Q1.out
      have hms19_0 := Q6.out
      have hs20 : w16.cell? ⟨Q5, 3, none⟩ = some (.int .i64 0) := (qql Q3.out 3).trans rfl
      have hfs20 := qqe Q3.out 3
      have hns20_0 := Q1.out
      have hms20_0 := Q6.out
      have hs21 : w16.cell? ⟨Q5, 4, none⟩ = some (.int .i64 0) := (qql Q3.out 4).trans rfl
      have hfs21 := qqe Q3.out 4
      have hns21_0 := Q1.out
      have hms21_0 := Q6.out
      have hs22 : w16.cell? ⟨Q5, 5, none⟩ = some (.int .i64 0) := (qql Q3.out 5).trans rfl
      have hfs22 := qqe Q3.out 5
      have hns22_0 := Q1.out
      have hms22_0 := Q6.out
      have hs23 : w16.cell? ⟨Q5, 6, none⟩ = some (.int .i64 0) := (qql Q3.out 6).trans rfl
      have hfs23 := qqe Q3.out 6
      have hns23_0 := Q1.out
      have hms23_0 := Q6.out
      have hs24 : w16.cell? ⟨Q5, 7, none⟩ = some (.int .i64 0) := (qql Q3.out 7).trans rfl
      have hfs24 := qqe Q3.out 7
      have hns24_0 := Q1.out
      have hms24_0 := Q6.out
      have hs25 : w16.cell? ⟨Q5, 8, none⟩ = some (.int .i64 0) := (qql Q3.out 8).trans rfl
      have hfs25 := qqe Q3.out 8
      have hns25_0 := Q1.out
      have hms25_0 := Q6.out
      have hs26 : w16.cell? ⟨Q5, 9, none⟩ = some (.int .i64 0) := (qql Q3.out 9).trans rfl
      have hfs26 := qqe Q3.out 9
      have hns26_0 := Q1.out
      have hms26_0 := Q6.out
      refine skip_ (w1 := ?_) (by rfl) rfl ?_ ?_
      rotate_left
      ·go_simp
       rfl
      have q0_ := Kd.own_blk (Kd.R_ne Qc.out Q3.out (by decide))
      refine hK.out _ _ ⟨((qqm (p := ⟨Q5, _, none⟩) (by first | exact q0_ | exact nbE q0_) _).trans (((qqm (p := ⟨Q5, _, none⟩) (by first | exact q0_ | exact nbE q0_) _).trans (((qqm (p := ⟨Q5, _, none⟩) (by first | exact q0_ | exact nbE q0_) _).trans (((qqm (p := ⟨Q5, _, none⟩) (by first | exact q0_ | exact nbE q0_) _).trans (((qqm (p := ⟨Q5, _, none⟩) (by first | exact q0_ | exact nbE q0_) _).trans (((qqm (p := ⟨Q5, _, none⟩) (by first | exact q0_ | exact nbE q0_) _).trans (((qqm (p := ⟨Q5, _, none⟩) (by first | exact q0_ | exact nbE q0_) _).trans (((qqm (p := ⟨Q5, _, none⟩) (by first | exact q0_ | exact nbE q0_) _).trans (((qqm (p := ⟨Q5, _, none⟩) (by first | exact q0_ | exact nbE q0_) _).trans (((qqm (p := ⟨Q5, _, none⟩) (by first | exact q0_ | exact nbE q0_) _).trans (hHeld.1)))))))))))))))))))), ((qqm (p := ⟨Q5, _, none⟩) (by first | exact q0_ | exact nbE q0_) _).trans (((qqm (p := ⟨Q5, _, none⟩) (by first | exact q0_ | exact nbE q0_) _).trans (((qqm (p := ⟨Q5, _, none⟩) (by first | exact q0_ | exact nbE q0_) _).trans (((qqm (p := ⟨Q5, _, none⟩) (by first | exact q0_ | exact nbE q0_) _).trans (((qqm (p := ⟨Q5, _, none⟩) (by first | exact q0_ | exact nbE q0_) _).trans (((qqm (p := ⟨Q5, _, none⟩) (by first | exact q0_ | exact nbE q0_) _).trans (((qqm (p := ⟨Q5, _, none⟩) (by first | exact q0_ | exact nbE q0_) _).trans (((qqm (p := ⟨Q5, _, none⟩) (by first | exact q0_ | exact nbE q0_) _).trans (((qqm (p := ⟨Q5, _, none⟩) (by first | exact q0_ | exact nbE q0_) _).trans (((qqm (p := ⟨Q5, _, none⟩) (by first | exact q0_ | exact nbE q0_) _).trans (hHeld.2.1)))))))))))))))))))), ((qqm (p := ⟨Q5, _, none⟩) (by first | exact q0_ | exact nbE q0_) _).trans (((qqm (p := ⟨Q5, _, none⟩) (by first | exact q0_ | exact nbE q0_) _).trans (((qqm (p := ⟨Q5, _, none⟩) (by first | exact q0_ | exact nbE q0_) _).trans (((qqm (p := ⟨Q5, _, none⟩) (by first | exact q0_ | exact nbE q0_) _).trans (((qqm (p := ⟨Q5, _, none⟩) (by first | exact q0_ | exact nbE q0_) _).trans (((qqm (p := ⟨Q5, _, none⟩) (by first | exact q0_ | exact nbE q0_) _).trans (((qqm (p := ⟨Q5, _, none⟩) (by first | exact q0_ | exact nbE q0_) _).trans (((qqm (p := ⟨Q5, _, none⟩) (by first | exact q0_ | exact nbE q0_) _).trans (((qqm (p := ⟨Q5, _, none⟩) (by first | exact q0_ | exact nbE q0_) _).trans (((qqm (p := ⟨Q5, _, none⟩) (by first | exact q0_ | exact nbE q0_) _).trans (hHeld.2.2.1)))))))))))))))))))), ((qqm (p := ⟨Q5, _, none⟩) (by first | exact q0_ | exact nbE q0_) _).trans (((qqm (p := ⟨Q5, _, none⟩) (by first | exact q0_ | exact nbE q0_) _).trans (((qqm (p := ⟨Q5, _, none⟩) (by first | exact q0_ | exact nbE q0_) _).trans (((qqm (p := ⟨Q5, _, none⟩) (by first | exact q0_ | exact nbE q0_) _).trans (((qqm (p := ⟨Q5, _, none⟩) (by first | exact q0_ | exact nbE q0_) _).trans (((qqm (p := ⟨Q5, _, none⟩) (by first | exact q0_ | exact nbE q0_) _).trans (((qqm (p := ⟨Q5, _, none⟩) (by first | exact q0_ | exact nbE q0_) _).trans (((qqm (p := ⟨Q5, _, none⟩) (by first | exact q0_ | exact nbE q0_) _).trans (((qqm (p := ⟨Q5, _, none⟩) (by first | exact q0_ | exact nbE q0_) _).trans (((qqm (p := ⟨Q5, _, none⟩) (by first | exact q0_ | exact nbE q0_) _).trans (hHeld.2.2.2))))))))))))))))))))⟩ (fun hHeld => ?_)
      clear hK K
      refine done_ (done_of HT_.out (by kernel_rfl)) ?_
      have hnb27 := Q6.out
      have hnc27 := Q1.out
      obtain ⟨hcz28_0, hcz28_1, hcz28_2, hcz28_3, hcz28_4, hcz28_5, hcz28_6, hcz28_7, hcz28_8, hcz28_9⟩ := bcells10 Q3.out
      obtain ⟨hfz28_0, hfz28_1, hfz28_2, hfz28_3, hfz28_4, hfz28_5, hfz28_6, hfz28_7, hfz28_8, hfz28_9⟩ := bfrozen10 Q3.out
      go_upto_if 35 with (fail)
      go_cut [8] (fun v8 wc => ∃ (kq : Nat) (Qn : Int), v8 = .int .i64 Qn ∧ Aside0 (msg_Get.j0 kq l0 Q8 Qn (rd Q0 0) (rd Q0 1) (rd Q0 2) (rd Q0 3) 0 0 0 0 0 0 = some (r1, r2, r3, r4, r5, r6, r7, r8, r9, r10, r11)) ∧ Aside0 (kq ≤ k) ∧ Aside0 (wc.heap[Qe]? = some (.cells #[.int .i64 0, .int .i64 0, .int .i64 0, .int .i64 0, .int .i64 0, .int .i64 0, .int .i64 0, .int .i64 0, .int .i64 0, .int .i64 0] 29 (0, 0))) ∧ Aside0 (wc.heap[Q5]? = some (.cells #[.int .i64 (rd Q0 0), .int .i64 (rd Q0 1), .int .i64 (rd Q0 2), .int .i64 (rd Q0 3), .int .i64 0, .int .i64 0, .int .i64 0, .int .i64 0, .int .i64 0, .int .i64 0] 29 (0, 0))) ∧ Aside0 (Below w.heap.size w wc))
      case first =>
       have H := HC8.out
       clear HC8
       by_cases c29 : (rd Q0 0) = 2
       ·rw [if_pos c29] at H
        have Qp : ((rd Q0 0) == 2) = true := beq_iff_eq.mpr c29
        have c29b1 : ((rd Q0 0) != 2) = false := bne_eq_false_iff_eq.mpr c29
        clear c29
        (first | rw [Qp] | (simp only [qqo, qqp]; rw [Qp]) | skip)
        have H' := Aside0.mk H
        clear H
        go_wp2
        go_meet
        case rel => exact ⟨_, (18), (by first | rfl | (simp; done) | (simp [*]; done)), H', ⟨by first | omega | exact Nat.le_refl _⟩, ⟨by (with_reducible repeat (first | refine qqg ?_ _ | refine qqk ?_ | refine qqh ?_ _)); refine qqq ?_ Q1.out _; (with_reducible repeat (first | refine qqg ?_ _ | refine qqk ?_ | refine qqh ?_ _)); refine qqq ?_ Q1.out _; (with_reducible repeat (first | refine qqg ?_ _ | refine qqk ?_ | refine qqh ?_ _)); refine qqq ?_ Q1.out _; (with_reducible repeat (first | refine qqg ?_ _ | refine qqk ?_ | refine qqh ?_ _)); refine qqq ?_ Q1.out _; (with_reducible repeat (first | refine qqg ?_ _ | refine qqk ?_ | refine qqh ?_ _)); refine qqq ?_ Q1.out _; (with_reducible repeat (first | refine qqg ?_ _ | refine qqk ?_ | refine qqh ?_ _)); refine qqq ?_ Q1.out _; (with_reducible repeat (first | refine qqg ?_ _ | refine qqk ?_ | refine qqh ?_ _)); refine qqq ?_ Q1.out _; (with_reducible repeat (first | refine qqg ?_ _ | refine qqk ?_ | refine qqh ?_ _)); refine qqq ?_ Q1.out _; (with_reducible repeat (first | refine qqg ?_ _ | refine qqk ?_ | refine qqh ?_ _)); refine qqq ?_ Q1.out _; (with_reducible repeat (first | refine qqg ?_ _ | refine qqk ?_ | refine qqh ?_ _)); refine qqq ?_ Q1.out _; (with_reducible repeat (first | refine qqg ?_ _ | refine qqk ?_ | refine qqh ?_ _)); exact Q2.out⟩, ⟨by (with_reducible repeat (first | refine qqg ?_ _ | refine qqk ?_ | refine qqh ?_ _)); refine qqv (cs := #[.int .i64 (rd Q0 0), .int .i64 (rd Q0 1), .int .i64 (rd Q0 2), .int .i64 (rd Q0 3), .int .i64 0, .int .i64 0, .int .i64 0, .int .i64 0, .int .i64 0, .int .i64 0]) ?_ 9 _ rfl; (with_reducible repeat (first | refine qqg ?_ _ | refine qqk ?_ | refine qqh ?_ _)); refine qqv (cs := #[.int .i64 (rd Q0 0), .int .i64 (rd Q0 1), .int .i64 (rd Q0 2), .int .i64 (rd Q0 3), .int .i64 0, .int .i64 0, .int .i64 0, .int .i64 0, .int .i64 0, .int .i64 0]) ?_ 8 _ rfl; (with_reducible repeat (first | refine qqg ?_ _ | refine qqk ?_ | refine qqh ?_ _)); refine qqv (cs := #[.int .i64 (rd Q0 0), .int .i64 (rd Q0 1), .int .i64 (rd Q0 2), .int .i64 (rd Q0 3), .int .i64 0, .int .i64 0, .int .i64 0, .int .i64 0, .int .i64 0, .int .i64 0]) ?_ 7 _ rfl; (with_reducible repeat (first | refine qqg ?_ _ | refine qqk ?_ | refine qqh ?_ _)); refine qqv (cs := #[.int .i64 (rd Q0 0), .int .i64 (rd Q0 1), .int .i64 (rd Q0 2), .int .i64 (rd Q0 3), .int .i64 0, .int .i64 0, .int .i64 0, .int .i64 0, .int .i64 0, .int .i64 0]) ?_ 6 _ rfl; (with_reducible repeat (first | refine qqg ?_ _ | refine qqk ?_ | refine qqh ?_ _)); refine qqv (cs := #[.int .i64 (rd Q0 0), .int .i64 (rd Q0 1), .int .i64 (rd Q0 2), .int .i64 (rd Q0 3), .int .i64 0, .int .i64 0, .int .i64 0, .int .i64 0, .int .i64 0, .int .i64 0]) ?_ 5 _ rfl; (with_reducible repeat (first | refine qqg ?_ _ | refine qqk ?_ | refine qqh ?_ _)); refine qqv (cs := #[.int .i64 (rd Q0 0), .int .i64 (rd Q0 1), .int .i64 (rd Q0 2), .int .i64 (rd Q0 3), .int .i64 0, .int .i64 0, .int .i64 0, .int .i64 0, .int .i64 0, .int .i64 0]) ?_ 4 _ rfl; (with_reducible repeat (first | refine qqg ?_ _ | refine qqk ?_ | refine qqh ?_ _)); refine qqv (cs := #[.int .i64 (rd Q0 0), .int .i64 (rd Q0 1), .int .i64 (rd Q0 2), .int .i64 0, .int .i64 0, .int .i64 0, .int .i64 0, .int .i64 0, .int .i64 0, .int .i64 0]) ?_ 3 _ rfl; (with_reducible repeat (first | refine qqg ?_ _ | refine qqk ?_ | refine qqh ?_ _)); refine qqv (cs := #[.int .i64 (rd Q0 0), .int .i64 (rd Q0 1), .int .i64 0, .int .i64 0, .int .i64 0, .int .i64 0, .int .i64 0, .int .i64 0, .int .i64 0, .int .i64 0]) ?_ 2 _ rfl; (with_reducible repeat (first | refine qqg ?_ _ | refine qqk ?_ | refine qqh ?_ _)); refine qqv (cs := #[.int .i64 (rd Q0 0), .int .i64 0, .int .i64 0, .int .i64 0, .int .i64 0, .int .i64 0, .int .i64 0, .int .i64 0, .int .i64 0, .int .i64 0]) ?_ 1 _ rfl; (with_reducible repeat (first | refine qqg ?_ _ | refine qqk ?_ | refine qqh ?_ _)); refine qqv (cs := #[.int .i64 0, .int .i64 0, .int .i64 0, .int .i64 0, .int .i64 0, .int .i64 0, .int .i64 0, .int .i64 0, .int .i64 0, .int .i64 0]) ?_ 0 _ rfl; (with_reducible repeat (first | refine qqg ?_ _ | refine qqk ?_ | refine qqh ?_ _)); exact Q3.out⟩, ⟨by repeat (first | (with_reducible first | exact HB.out | apply qqc | apply qqa | apply qqb | refine qqd ?_ GE284.out | refine qqd ?_ GE297.out) | exact HB.out)⟩⟩
       ·rw [if_neg c29] at H
        have Qp : ((rd Q0 0) == 2) = false := beq_eq_false_iff_ne.mpr c29
        have c29b1 : ((rd Q0 0) != 2) = true := bne_iff_ne.mpr c29
        (first | rw [Qp] | (simp only [qqo, qqp]; rw [Qp]) | skip)
        have H' := Aside0.mk H
        clear H
        go_wp2
        go_meet
        case rel => exact ⟨_, (9), (by first | rfl | (simp; done) | (simp [*]; done)), H', ⟨by first | omega | exact Nat.le_refl _⟩, ⟨by (with_reducible repeat (first | refine qqg ?_ _ | refine qqk ?_ | refine qqh ?_ _)); refine qqq ?_ Q1.out _; (with_reducible repeat (first | refine qqg ?_ _ | refine qqk ?_ | refine qqh ?_ _)); refine qqq ?_ Q1.out _; (with_reducible repeat (first | refine qqg ?_ _ | refine qqk ?_ | refine qqh ?_ _)); refine qqq ?_ Q1.out _; (with_reducible repeat (first | refine qqg ?_ _ | refine qqk ?_ | refine qqh ?_ _)); refine qqq ?_ Q1.out _; (with_reducible repeat (first | refine qqg ?_ _ | refine qqk ?_ | refine qqh ?_ _)); refine qqq ?_ Q1.out _; (with_reducible repeat (first | refine qqg ?_ _ | refine qqk ?_ | refine qqh ?_ _)); refine qqq ?_ Q1.out _; (with_reducible repeat (first | refine qqg ?_ _ | refine qqk ?_ | refine qqh ?_ _)); refine qqq ?_ Q1.out _; (with_reducible repeat (first | refine qqg ?_ _ | refine qqk ?_ | refine qqh ?_ _)); refine qqq ?_ Q1.out _; (with_reducible repeat (first | refine qqg ?_ _ | refine qqk ?_ | refine qqh ?_ _)); refine qqq ?_ Q1.out _; (with_reducible repeat (first | refine qqg ?_ _ | refine qqk ?_ | refine qqh ?_ _)); refine qqq ?_ Q1.out _; (with_reducible repeat (first | refine qqg ?_ _ | refine qqk ?_ | refine qqh ?_ _)); exact Q2.out⟩, ⟨by (with_reducible repeat (first | refine qqg ?_ _ | refine qqk ?_ | refine qqh ?_ _)); refine qqv (cs := #[.int .i64 (rd Q0 0), .int .i64 (rd Q0 1), .int .i64 (rd Q0 2), .int .i64 (rd Q0 3), .int .i64 0, .int .i64 0, .int .i64 0, .int .i64 0, .int .i64 0, .int .i64 0]) ?_ 9 _ rfl; (with_reducible repeat (first | refine qqg ?_ _ | refine qqk ?_ | refine qqh ?_ _)); refine qqv (cs := #[.int .i64 (rd Q0 0), .int .i64 (rd Q0 1), .int .i64 (rd Q0 2), .int .i64 (rd Q0 3), .int .i64 0, .int .i64 0, .int .i64 0, .int .i64 0, .int .i64 0, .int .i64 0]) ?_ 8 _ rfl; (with_reducible repeat (first | refine qqg ?_ _ | refine qqk ?_ | refine qqh ?_ _)); refine qqv (cs := #[.int .i64 (rd Q0 0), .int .i64 (rd Q0 1), .int .i64 (rd Q0 2), .int .i64 (rd Q0 3), .int .i64 0, .int .i64 0, .int .i64 0, .int .i64 0, .int .i64 0, .int .i64 0]) ?_ 7 _ rfl; (with_reducible repeat (first | refine qqg ?_ _ | refine qqk ?_ | refine qqh ?_ _)); refine qqv (cs := #[.int .i64 (rd Q0 0), .int .i64 (rd Q0 1), .int .i64 (rd Q0 2), .int .i64 (rd Q0 3), .int .i64 0, .int .i64 0, .int .i64 0, .int .i64 0, .int .i64 0, .int .i64 0]) ?_ 6 _ rfl; (with_reducible repeat (first | refine qqg ?_ _ | refine qqk ?_ | refine qqh ?_ _)); refine qqv (cs := #[.int .i64 (rd Q0 0), .int .i64 (rd Q0 1), .int .i64 (rd Q0 2), .int .i64 (rd Q0 3), .int .i64 0, .int .i64 0, .int .i64 0, .int .i64 0, .int .i64 0, .int .i64 0]) ?_ 5 _ rfl; (with_reducible repeat (first | refine qqg ?_ _ | refine qqk ?_ | refine qqh ?_ _)); refine qqv (cs := #[.int .i64 (rd Q0 0), .int .i64 (rd Q0 1), .int .i64 (rd Q0 2), .int .i64 (rd Q0 3), .int .i64 0, .int .i64 0, .int .i64 0, .int .i64 0, .int .i64 0, .int .i64 0]) ?_ 4 _ rfl; (with_reducible repeat (first | refine qqg ?_ _ | refine qqk ?_ | refine qqh ?_ _)); refine qqv (cs := #[.int .i64 (rd Q0 0), .int .i64 (rd Q0 1), .int .i64 (rd Q0 2), .int .i64 0, .int .i64 0, .int .i64 0, .int .i64 0, .int .i64 0, .int .i64 0, .int .i64 0]) ?_ 3 _ rfl; (with_reducible repeat (first | refine qqg ?_ _ | refine qqk ?_ | refine qqh ?_ _)); refine qqv (cs := #[.int .i64 (rd Q0 0), .int .i64 (rd Q0 1), .int .i64 0, .int .i64 0, .int .i64 0, .int .i64 0, .int .i64 0, .int .i64 0, .int .i64 0, .int .i64 0]) ?_ 2 _ rfl; (with_reducible repeat (first | refine qqg ?_ _ | refine qqk ?_ | refine qqh ?_ _)); refine qqv (cs := #[.int .i64 (rd Q0 0), .int .i64 0, .int .i64 0, .int .i64 0, .int .i64 0, .int .i64 0, .int .i64 0, .int .i64 0, .int .i64 0, .int .i64 0]) ?_ 1 _ rfl; (with_reducible repeat (first | refine qqg ?_ _ | refine qqk ?_ | refine qqh ?_ _)); refine qqv (cs := #[.int .i64 0, .int .i64 0, .int .i64 0, .int .i64 0, .int .i64 0, .int .i64 0, .int .i64 0, .int .i64 0, .int .i64 0, .int .i64 0]) ?_ 0 _ rfl; (with_reducible repeat (first | refine qqg ?_ _ | refine qqk ?_ | refine qqh ?_ _)); exact Q3.out⟩, ⟨by repeat (first | (with_reducible first | exact HB.out | apply qqc | apply qqa | apply qqb | refine qqd ?_ GE284.out | refine qqd ?_ GE297.out) | exact HB.out)⟩⟩
      case rest =>
       clear HC8
       try clear c2
       try clear p2
       try clear q2
       try clear hx2
       try clear qi2
       try clear c3
       try clear c3b0
       try clear c3b1
       try clear c4
       try clear c4b0
       try clear c4b1
       try clear c5
       try clear c5b0
       try clear c5b1
       try clear c6
       try clear c6b0
       try clear c6b1
       try clear c7
       try clear c7b0
       try clear c7b1
       try clear c27
       try clear c28
       try clear c29
       try clear Qp
       try clear c29b1
       try clear p29
       try clear q29
       try clear hx29
       try clear qi29
       try clear hcz28_0
       try clear hcz28_1
       try clear hcz28_2
       try clear hcz28_3
       try clear hcz28_4
       try clear hcz28_5
       try clear hcz28_6
       try clear hcz28_7
       try clear hcz28_8
       try clear hcz28_9
       try clear hfz28_0
       try clear hfz28_1
       try clear hfz28_2
       try clear hfz28_3
       try clear hfz28_4
       try clear hfz28_5
       try clear hfz28_6
       try clear hfz28_7
       try clear hfz28_8
       try clear hfz28_9
       try clear Qi
       try clear Qj
       try clear Qk
       try clear Qm
       try clear p293
       try clear p294
       try clear p295
       try clear p296
       try clear q293
       try clear q294
       try clear q295
       try clear q296
       obtain ⟨kq, Qn, rfl, HA, HJ7, Q2, Q3, HB⟩ := hcut
       cases kq with
       | zero => exact absurd HA.out (by simp [msg_Get.j0])
       | succ kj7 =>
        have H := HA.out
        clear HA
        simp only [msg_Get.j0] at H
        by_cases c30 : (l0.length : Int) < Qn
        ·rw [if_pos c30] at H
         have c30b0 : decide ((l0.length : Int) < Qn) = true := decide_eq_true c30
         clear c30
         simp only [Option.some.injEq, Prod.mk.injEq] at H
         obtain ⟨rfl, rfl, rfl, rfl, rfl, rfl, rfl, rfl, rfl, rfl, rfl⟩ := H
         have hnb31 := Q1.out
         have hnc31 := Q6.out
         obtain ⟨_, _, _, _, _, _, _, _, _, _⟩ := bcells10 Q2.out
         obtain ⟨_, _, _, _, _, _, _, _, _, _⟩ := bfrozen10 Q2.out
         go_wp2
         refine bodyPost_ret (results_ct rfl _ _ Qe 29 #[.int .i64 0, .int .i64 0, .int .i64 0, .int .i64 0, .int .i64 0, .int .i64 0, .int .i64 0, .int .i64 0, .int .i64 0, .int .i64 0] (0, 0) _ rfl (by exact bput10 Q2.out) Tryd.underlying29 rfl (by kernel_rfl)) rfl ?_
         exact ⟨by first | rfl | (simp [qqj, qqi] <;> rfl) | (simp [*, qqj, qqi] <;> rfl), by repeat (first | (with_reducible first | exact HB.out | apply qqc | apply qqa | apply qqb | refine qqd ?_ GE284.out | refine qqd ?_ GE297.out) | exact HB.out)⟩
        ·rw [if_neg c30] at H
         have c30b0 : decide ((l0.length : Int) < Qn) = false := decide_eq_false c30
         clear c30
         by_cases c33 : (l0.length : Int) > Qn
         ·rw [if_pos c33] at H
          have c33b0 : decide (Qn < (l0.length : Int)) = true := decide_eq_true c33
          clear c33
          simp only [Option.some.injEq, Prod.mk.injEq] at H
          obtain ⟨rfl, rfl, rfl, rfl, rfl, rfl, rfl, rfl, rfl, rfl, rfl⟩ := H
          have hnb34 := Q1.out
          have hnc34 := Q6.out
          obtain ⟨_, _, _, _, _, _, _, _, _, _⟩ := bcells10 Q2.out
          obtain ⟨_, _, _, _, _, _, _, _, _, _⟩ := bfrozen10 Q2.out
          go_wp2
          refine bodyPost_ret (results_ct rfl _ _ Qe 29 #[.int .i64 0, .int .i64 0, .int .i64 0, .int .i64 0, .int .i64 0, .int .i64 0, .int .i64 0, .int .i64 0, .int .i64 0, .int .i64 0] (0, 0) _ rfl (by exact bput10 Q2.out) Tryd.underlying29 rfl (by kernel_rfl)) rfl ?_
          exact ⟨by first | rfl | (simp [qqj, qqi] <;> rfl) | (simp [*, qqj, qqi] <;> rfl), by repeat (first | (with_reducible first | exact HB.out | apply qqc | apply qqa | apply qqb | refine qqd ?_ GE284.out | refine qqd ?_ GE297.out) | exact HB.out)⟩
         ·rw [if_neg c33] at H
          have c33b0 : decide (Qn < (l0.length : Int)) = false := decide_eq_false c33
          clear c33
          by_cases c36 : Qn = 18
          ·rw [if_pos c36] at H
           have c36b0 : (Qn == 18) = true := beq_iff_eq.mpr c36
           have c36b1 : (Qn != 18) = false := bne_eq_false_iff_eq.mpr c36
           clear c36
           by_cases c37 : 0 ≤ Q8
           ·rw [if_pos c37] at H
            have c37b0 := eq_true c37
            have c37b1 : decide (0 ≤ Q8) = true := decide_eq_true c37
            clear c37
            by_cases c38 : Q8 ≤ (l0.length : Int)
            ·rw [if_pos c38] at H
             have c38b0 := eq_true c38
             have c38b1 : decide (Q8 ≤ (l0.length : Int)) = true := decide_eq_true c38
             clear c38
             replace H := Option.bind_eq_some_iff.mp H
             obtain ⟨⟨Q9, Qa, Qd, Qf, Qg, Qo, t305⟩, A390, H⟩ := H
             replace H : (if t305 = 0 then ((msg_May.f (rd Q0 0) (rd Q0 1) (rd Q0 2) (rd Q0 3) Q9 Qa Qd Qf Qg Qo).bind fun t306 => (if t306 = true then (some ((rd Q0 0), (rd Q0 1), (rd Q0 2), (rd Q0 3), Q9, Qa, Qd, Qf, Qg, Qo, 0)) else (some (0, 0, 0, 0, 0, 0, 0, 0, 0, 0, 2)))) else (some (0, 0, 0, 0, 0, 0, 0, 0, 0, 0, 2))) = some (r1, r2, r3, r4, r5, r6, r7, r8, r9, r10, r11) := H
             have A39 := Aside0.mk A390
             clear A390
             by_cases c40 : t305 = 0
             ·rw [if_pos c40] at H
              have c40b0 : (t305 == 0) = true := beq_iff_eq.mpr c40
              have c40b1 : (t305 != 0) = false := bne_eq_false_iff_eq.mpr c40
              clear c40
              replace H := Option.bind_eq_some_iff.mp H
              obtain ⟨t306, A410, H⟩ := H
              replace H : (if t306 = true then (some ((rd Q0 0), (rd Q0 1), (rd Q0 2), (rd Q0 3), Q9, Qa, Qd, Qf, Qg, Qo, 0)) else (some (0, 0, 0, 0, 0, 0, 0, 0, 0, 0, 2))) = some (r1, r2, r3, r4, r5, r6, r7, r8, r9, r10, r11) := H
              have A41 := Aside0.mk A410
              clear A410
              by_cases c42 : t306 = true
              ·subst c42
               have H1 : (some ((rd Q0 0), (rd Q0 1), (rd Q0 2), (rd Q0 3), Q9, Qa, Qd, Qf, Qg, Qo, 0)) = some (r1, r2, r3, r4, r5, r6, r7, r8, r9, r10, r11) := by rw [if_pos rfl] at H; exact H
               clear H
               have H := H1
               clear H1
               simp only [Option.some.injEq, Prod.mk.injEq] at H
               obtain ⟨rfl, rfl, rfl, rfl, rfl, rfl, rfl, rfl, rfl, rfl, rfl⟩ := H
               obtain ⟨i043, hi043, _, hsz43, _⟩ := info_parts info5
               obtain ⟨A43, hcut43, hA43, hC43⟩ := print_drop_of (P := Tryd.prog) (Value.int .u8) 0 31 5 .i64 Tryd.underlying31 hi043 hsz43 A0 c0 l0 Q8 (of_decide_eq_true (by first | (with_reducible assumption) | assumption)) (of_decide_eq_true (by first | (with_reducible assumption) | assumption)) HC0.out
               have HR298 := Aside0.mk (Kd.C_of_reads (h1 := fun _ => rfl) (hA43 _ (Kd.reads_of_C HR0.out)))
               have HC298 := Aside0.mk hC43
               clear hA43 hC43 hi043 hsz43
               go_wp2_with (first | ((with_reducible refine qqr (f := 39) rfl ?_); refine goesL_ (some 55) rfl rfl Tryd.func39 (by kernel_rfl) rfl #[.slice A43 (l0.drop (Q8 : Int).toNat).length (c0 - Q8.toNat)] rfl (by (try simp only [List.map_toArray, List.map_cons, List.map_nil]); first | done | (rw [show (l0.drop (Q8 : Int).toNat).length = (l0.length - Q8.toNat) from List.length_drop] <;> rfl) | rfl | (simp only [List.length_drop, List.length_take]; rfl)) ?_; (with_reducible refine (rule_Get.calls kj7 _ _ (l0.drop (Q8 : Int).toNat) Q9 Qa Qd Qf Qg Qo t305 _ ?side1 ?side2 A39.out).mono ?_); (case side1 => repeat (first | exact (Kd.C_below HR298.out HB.out) | (with_reducible refine Kd.C_alloc ?_ _) | (with_reducible refine Kd.C_drewN ?_ _) | (with_reducible refine Kd.C_drew ?_))); (case side2 => exact HC298.out); rintro e w44 ⟨rfl, hb⟩; refine ⟨_, rfl, ?_⟩; replace Q2 := bbl Q2 hb; replace Q3 := bbl Q3 hb; replace HB := bst HB hb; (try clear hb); have hnb45 := Q6.out; have hnc45 := Q1.out; obtain ⟨_, _, _, _, _, _, _, _, _, _⟩ := bcells10 Q3.out; obtain ⟨_, _, _, _, _, _, _, _, _, _⟩ := bfrozen10 Q3.out) | ((with_reducible refine qqr (f := 15) rfl ?_); refine goesL_ (some 63) rfl rfl Tryd.func15 (by kernel_rfl) rfl #[.agg #[.int .i64 (rd Q0 0), .int .i64 (rd Q0 1), .int .i64 (rd Q0 2), .int .i64 (rd Q0 3), .int .i64 Q9, .int .i64 Qa, .int .i64 Qd, .int .i64 Qf, .int .i64 Qg, .int .i64 Qo]] rfl (by (try simp only [List.map_toArray, List.map_cons, List.map_nil]); first | done | rfl | (simp only [List.length_drop, List.length_take]; rfl)) ?_; (with_reducible refine (msg_May.calls (rd Q0 0) (rd Q0 1) (rd Q0 2) (rd Q0 3) Q9 Qa Qd Qf Qg Qo true _ ?sideG_ A41.out).mono ?_); (case sideG_ => exact hG.below rfl (by repeat (first | (with_reducible first | exact HB.out | apply qqc | apply qqa | apply qqb | refine qqd ?_ GE284.out | refine qqd ?_ GE297.out) | exact HB.out))); rintro e w47 ⟨rfl, hb⟩; refine ⟨_, rfl, ?_⟩; replace Q2 := Aside0.mk (blk_below (g := Qe) (o := .cells #[.int .i64 0, .int .i64 0, .int .i64 0, .int .i64 0, .int .i64 0, .int .i64 0, .int .i64 0, .int .i64 0, .int .i64 0, .int .i64 0] 29 (0, 0)) (by (with_reducible repeat (first | refine qqg ?_ _ | refine qqk ?_ | refine qqh ?_ _)); refine qqq ?_ Q1.out _; (with_reducible repeat (first | refine qqg ?_ _ | refine qqk ?_ | refine qqh ?_ _)); refine qqq ?_ Q1.out _; (with_reducible repeat (first | refine qqg ?_ _ | refine qqk ?_ | refine qqh ?_ _)); refine qqq ?_ Q1.out _; (with_reducible repeat (first | refine qqg ?_ _ | refine qqk ?_ | refine qqh ?_ _)); refine qqq ?_ Q1.out _; (with_reducible repeat (first | refine qqg ?_ _ | refine qqk ?_ | refine qqh ?_ _)); refine qqq ?_ Q1.out _; (with_reducible repeat (first | refine qqg ?_ _ | refine qqk ?_ | refine qqh ?_ _)); refine qqq ?_ Q1.out _; (with_reducible repeat (first | refine qqg ?_ _ | refine qqk ?_ | refine qqh ?_ _)); exact Q2.out) hb); replace Q3 := Aside0.mk (blk_below (g := Q5) (o := .cells #[.int .i64 (rd Q0 0), .int .i64 (rd Q0 1), .int .i64 (rd Q0 2), .int .i64 (rd Q0 3), .int .i64 Q9, .int .i64 Qa, .int .i64 Qd, .int .i64 Qf, .int .i64 Qg, .int .i64 Qo] 29 (0, 0)) (by (with_reducible repeat (first | refine qqg ?_ _ | refine qqk ?_ | refine qqh ?_ _)); refine qqv (cs := #[.int .i64 (rd Q0 0), .int .i64 (rd Q0 1), .int .i64 (rd Q0 2), .int .i64 (rd Q0 3), .int .i64 Q9, .int .i64 Qa, .int .i64 Qd, .int .i64 Qf, .int .i64 Qg, .int .i64 0]) ?_ 9 _ rfl; (with_reducible repeat (first | refine qqg ?_ _ | refine qqk ?_ | refine qqh ?_ _)); refine qqv (cs := #[.int .i64 (rd Q0 0), .int .i64 (rd Q0 1), .int .i64 (rd Q0 2), .int .i64 (rd Q0 3), .int .i64 Q9, .int .i64 Qa, .int .i64 Qd, .int .i64 Qf, .int .i64 0, .int .i64 0]) ?_ 8 _ rfl; (with_reducible repeat (first | refine qqg ?_ _ | refine qqk ?_ | refine qqh ?_ _)); refine qqv (cs := #[.int .i64 (rd Q0 0), .int .i64 (rd Q0 1), .int .i64 (rd Q0 2), .int .i64 (rd Q0 3), .int .i64 Q9, .int .i64 Qa, .int .i64 Qd, .int .i64 0, .int .i64 0, .int .i64 0]) ?_ 7 _ rfl; (with_reducible repeat (first | refine qqg ?_ _ | refine qqk ?_ | refine qqh ?_ _)); refine qqv (cs := #[.int .i64 (rd Q0 0), .int .i64 (rd Q0 1), .int .i64 (rd Q0 2), .int .i64 (rd Q0 3), .int .i64 Q9, .int .i64 Qa, .int .i64 0, .int .i64 0, .int .i64 0, .int .i64 0]) ?_ 6 _ rfl; (with_reducible repeat (first | refine qqg ?_ _ | refine qqk ?_ | refine qqh ?_ _)); refine qqv (cs := #[.int .i64 (rd Q0 0), .int .i64 (rd Q0 1), .int .i64 (rd Q0 2), .int .i64 (rd Q0 3), .int .i64 Q9, .int .i64 0, .int .i64 0, .int .i64 0, .int .i64 0, .int .i64 0]) ?_ 5 _ rfl; (with_reducible repeat (first | refine qqg ?_ _ | refine qqk ?_ | refine qqh ?_ _)); refine qqv (cs := #[.int .i64 (rd Q0 0), .int .i64 (rd Q0 1), .int .i64 (rd Q0 2), .int .i64 (rd Q0 3), .int .i64 0, .int .i64 0, .int .i64 0, .int .i64 0, .int .i64 0, .int .i64 0]) ?_ 4 _ rfl; (with_reducible repeat (first | refine qqg ?_ _ | refine qqk ?_ | refine qqh ?_ _)); exact Q3.out) hb); replace HB := bst HB hb; (try clear hb); obtain ⟨_, _, _, _, _, _, _, _, _, _⟩ := bcells10 Q3.out; obtain ⟨_, _, _, _, _, _, _, _, _, _⟩ := bfrozen10 Q3.out; obtain ⟨_, _, _, _, _, _, _, _, _, _⟩ := bcells10 Q2.out; obtain ⟨_, _, _, _, _, _, _, _, _, _⟩ := bfrozen10 Q2.out))
               refine bodyPost_ret (results_ct rfl _ _ Qe 29 #[.int .i64 (rd Q0 0), .int .i64 (rd Q0 1), .int .i64 (rd Q0 2), .int .i64 (rd Q0 3), .int .i64 Q9, .int .i64 Qa, .int .i64 Qd, .int .i64 Qf, .int .i64 Qg, .int .i64 Qo] (0, 0) _ rfl (by exact bput10 Q2.out) Tryd.underlying29 rfl (by kernel_rfl)) rfl ?_
               exact ⟨by first | rfl | (simp [qqj, qqi] <;> rfl) | (simp [*, qqj, qqi] <;> rfl), by repeat (first | (with_reducible first | exact HB.out | apply qqc | apply qqa | apply qqb | refine qqd ?_ GE284.out | refine qqd ?_ GE297.out) | exact HB.out)⟩
              ·replace c42 := Bool.eq_false_iff.mpr c42
               subst c42
               have H1 : (some (0, 0, 0, 0, 0, 0, 0, 0, 0, 0, 2)) = some (r1, r2, r3, r4, r5, r6, r7, r8, r9, r10, r11) := by rw [if_neg (show ¬ (false = true) by decide)] at H; exact H
               clear H
               have H := H1
               clear H1
               simp only [Option.some.injEq, Prod.mk.injEq] at H
               obtain ⟨rfl, rfl, rfl, rfl, rfl, rfl, rfl, rfl, rfl, rfl, rfl⟩ := H
               obtain ⟨i050, hi050, _, hsz50, _⟩ := info_parts info5
               obtain ⟨A50, hcut50, hA50, hC50⟩ := print_drop_of (P := Tryd.prog) (Value.int .u8) 0 31 5 .i64 Tryd.underlying31 hi050 hsz50 A0 c0 l0 Q8 (of_decide_eq_true (by first | (with_reducible assumption) | assumption)) (of_decide_eq_true (by first | (with_reducible assumption) | assumption)) HC0.out
               have HR298 := Aside0.mk (Kd.C_of_reads (h1 := fun _ => rfl) (hA50 _ (Kd.reads_of_C HR0.out)))
               have HC298 := Aside0.mk hC50
               clear hA50 hC50 hi050 hsz50
               go_wp2_with (first | ((with_reducible refine qqr (f := 39) rfl ?_); refine goesL_ (some 55) rfl rfl Tryd.func39 (by kernel_rfl) rfl #[.slice A50 (l0.drop (Q8 : Int).toNat).length (c0 - Q8.toNat)] rfl (by (try simp only [List.map_toArray, List.map_cons, List.map_nil]); first | done | (rw [show (l0.drop (Q8 : Int).toNat).length = (l0.length - Q8.toNat) from List.length_drop] <;> rfl) | rfl | (simp only [List.length_drop, List.length_take]; rfl)) ?_; (with_reducible refine (rule_Get.calls kj7 _ _ (l0.drop (Q8 : Int).toNat) Q9 Qa Qd Qf Qg Qo t305 _ ?side1 ?side2 A39.out).mono ?_); (case side1 => repeat (first | exact (Kd.C_below HR298.out HB.out) | (with_reducible refine Kd.C_alloc ?_ _) | (with_reducible refine Kd.C_drewN ?_ _) | (with_reducible refine Kd.C_drew ?_))); (case side2 => exact HC298.out); rintro e w51 ⟨rfl, hb⟩; refine ⟨_, rfl, ?_⟩; replace Q2 := bbl Q2 hb; replace Q3 := bbl Q3 hb; replace HB := bst HB hb; (try clear hb); have hnb52 := Q6.out; have hnc52 := Q1.out; obtain ⟨_, _, _, _, _, _, _, _, _, _⟩ := bcells10 Q3.out; obtain ⟨_, _, _, _, _, _, _, _, _, _⟩ := bfrozen10 Q3.out) | ((with_reducible refine qqr (f := 15) rfl ?_); refine goesL_ (some 63) rfl rfl Tryd.func15 (by kernel_rfl) rfl #[.agg #[.int .i64 (rd Q0 0), .int .i64 (rd Q0 1), .int .i64 (rd Q0 2), .int .i64 (rd Q0 3), .int .i64 Q9, .int .i64 Qa, .int .i64 Qd, .int .i64 Qf, .int .i64 Qg, .int .i64 Qo]] rfl (by (try simp only [List.map_toArray, List.map_cons, List.map_nil]); first | done | rfl | (simp only [List.length_drop, List.length_take]; rfl)) ?_; (with_reducible refine (msg_May.calls (rd Q0 0) (rd Q0 1) (rd Q0 2) (rd Q0 3) Q9 Qa Qd Qf Qg Qo false _ ?sideG_ A41.out).mono ?_); (case sideG_ => exact hG.below rfl (by repeat (first | (with_reducible first | exact HB.out | apply qqc | apply qqa | apply qqb | refine qqd ?_ GE284.out | refine qqd ?_ GE297.out) | exact HB.out))); rintro e w54 ⟨rfl, hb⟩; refine ⟨_, rfl, ?_⟩; replace Q2 := Aside0.mk (blk_below (g := Qe) (o := .cells #[.int .i64 0, .int .i64 0, .int .i64 0, .int .i64 0, .int .i64 0, .int .i64 0, .int .i64 0, .int .i64 0, .int .i64 0, .int .i64 0] 29 (0, 0)) (by (with_reducible repeat (first | refine qqg ?_ _ | refine qqk ?_ | refine qqh ?_ _)); refine qqq ?_ Q1.out _; (with_reducible repeat (first | refine qqg ?_ _ | refine qqk ?_ | refine qqh ?_ _)); refine qqq ?_ Q1.out _; (with_reducible repeat (first | refine qqg ?_ _ | refine qqk ?_ | refine qqh ?_ _)); refine qqq ?_ Q1.out _; (with_reducible repeat (first | refine qqg ?_ _ | refine qqk ?_ | refine qqh ?_ _)); refine qqq ?_ Q1.out _; (with_reducible repeat (first | refine qqg ?_ _ | refine qqk ?_ | refine qqh ?_ _)); refine qqq ?_ Q1.out _; (with_reducible repeat (first | refine qqg ?_ _ | refine qqk ?_ | refine qqh ?_ _)); refine qqq ?_ Q1.out _; (with_reducible repeat (first | refine qqg ?_ _ | refine qqk ?_ | refine qqh ?_ _)); exact Q2.out) hb); replace Q3 := Aside0.mk (blk_below (g := Q5) (o := .cells #[.int .i64 (rd Q0 0), .int .i64 (rd Q0 1), .int .i64 (rd Q0 2), .int .i64 (rd Q0 3), .int .i64 Q9, .int .i64 Qa, .int .i64 Qd, .int .i64 Qf, .int .i64 Qg, .int .i64 Qo] 29 (0, 0)) (by (with_reducible repeat (first | refine qqg ?_ _ | refine qqk ?_ | refine qqh ?_ _)); refine qqv (cs := #[.int .i64 (rd Q0 0), .int .i64 (rd Q0 1), .int .i64 (rd Q0 2), .int .i64 (rd Q0 3), .int .i64 Q9, .int .i64 Qa, .int .i64 Qd, .int .i64 Qf, .int .i64 Qg, .int .i64 0]) ?_ 9 _ rfl; (with_reducible repeat (first | refine qqg ?_ _ | refine qqk ?_ | refine qqh ?_ _)); refine qqv (cs := #[.int .i64 (rd Q0 0), .int .i64 (rd Q0 1), .int .i64 (rd Q0 2), .int .i64 (rd Q0 3), .int .i64 Q9, .int .i64 Qa, .int .i64 Qd, .int .i64 Qf, .int .i64 0, .int .i64 0]) ?_ 8 _ rfl; (with_reducible repeat (first | refine qqg ?_ _ | refine qqk ?_ | refine qqh ?_ _)); refine qqv (cs := #[.int .i64 (rd Q0 0), .int .i64 (rd Q0 1), .int .i64 (rd Q0 2), .int .i64 (rd Q0 3), .int .i64 Q9, .int .i64 Qa, .int .i64 Qd, .int .i64 0, .int .i64 0, .int .i64 0]) ?_ 7 _ rfl; (with_reducible repeat (first | refine qqg ?_ _ | refine qqk ?_ | refine qqh ?_ _)); refine qqv (cs := #[.int .i64 (rd Q0 0), .int .i64 (rd Q0 1), .int .i64 (rd Q0 2), .int .i64 (rd Q0 3), .int .i64 Q9, .int .i64 Qa, .int .i64 0, .int .i64 0, .int .i64 0, .int .i64 0]) ?_ 6 _ rfl; (with_reducible repeat (first | refine qqg ?_ _ | refine qqk ?_ | refine qqh ?_ _)); refine qqv (cs := #[.int .i64 (rd Q0 0), .int .i64 (rd Q0 1), .int .i64 (rd Q0 2), .int .i64 (rd Q0 3), .int .i64 Q9, .int .i64 0, .int .i64 0, .int .i64 0, .int .i64 0, .int .i64 0]) ?_ 5 _ rfl; (with_reducible repeat (first | refine qqg ?_ _ | refine qqk ?_ | refine qqh ?_ _)); refine qqv (cs := #[.int .i64 (rd Q0 0), .int .i64 (rd Q0 1), .int .i64 (rd Q0 2), .int .i64 (rd Q0 3), .int .i64 0, .int .i64 0, .int .i64 0, .int .i64 0, .int .i64 0, .int .i64 0]) ?_ 4 _ rfl; (with_reducible repeat (first | refine qqg ?_ _ | refine qqk ?_ | refine qqh ?_ _)); exact Q3.out) hb); replace HB := bst HB hb; (try clear hb); obtain ⟨_, _, _, _, _, _, _, _, _, _⟩ := bcells10 Q2.out; obtain ⟨_, _, _, _, _, _, _, _, _, _⟩ := bfrozen10 Q2.out))
               refine bodyPost_ret (results_ct rfl _ _ Qe 29 #[.int .i64 0, .int .i64 0, .int .i64 0, .int .i64 0, .int .i64 0, .int .i64 0, .int .i64 0, .int .i64 0, .int .i64 0, .int .i64 0] (0, 0) _ rfl (by exact bput10 Q2.out) Tryd.underlying29 rfl (by kernel_rfl)) rfl ?_
               exact ⟨by first | rfl | (simp [qqj, qqi] <;> rfl) | (simp [*, qqj, qqi] <;> rfl), by repeat (first | (with_reducible first | exact HB.out | apply qqc | apply qqa | apply qqb | refine qqd ?_ GE284.out | refine qqd ?_ GE297.out) | exact HB.out)⟩
             ·rw [if_neg c40] at H
              have c40b0 : (t305 == 0) = false := beq_eq_false_iff_ne.mpr c40
              have c40b1 : (t305 != 0) = true := bne_iff_ne.mpr c40
              simp only [Option.some.injEq, Prod.mk.injEq] at H
              obtain ⟨rfl, rfl, rfl, rfl, rfl, rfl, rfl, rfl, rfl, rfl, rfl⟩ := H
              obtain ⟨i056, hi056, _, hsz56, _⟩ := info_parts info5
              obtain ⟨A56, hcut56, hA56, hC56⟩ := print_drop_of (P := Tryd.prog) (Value.int .u8) 0 31 5 .i64 Tryd.underlying31 hi056 hsz56 A0 c0 l0 Q8 (of_decide_eq_true (by first | (with_reducible assumption) | assumption)) (of_decide_eq_true (by first | (with_reducible assumption) | assumption)) HC0.out
              have HR298 := Aside0.mk (Kd.C_of_reads (h1 := fun _ => rfl) (hA56 _ (Kd.reads_of_C HR0.out)))
              have HC298 := Aside0.mk hC56
              clear hA56 hC56 hi056 hsz56
              go_wp2_with (first | ((with_reducible refine qqr (f := 39) rfl ?_); refine goesL_ (some 55) rfl rfl Tryd.func39 (by kernel_rfl) rfl #[.slice A56 (l0.drop (Q8 : Int).toNat).length (c0 - Q8.toNat)] rfl (by (try simp only [List.map_toArray, List.map_cons, List.map_nil]); first | done | (rw [show (l0.drop (Q8 : Int).toNat).length = (l0.length - Q8.toNat) from List.length_drop] <;> rfl) | rfl | (simp only [List.length_drop, List.length_take]; rfl)) ?_; (with_reducible refine (rule_Get.calls kj7 _ _ (l0.drop (Q8 : Int).toNat) Q9 Qa Qd Qf Qg Qo t305 _ ?side1 ?side2 A39.out).mono ?_); (case side1 => repeat (first | exact (Kd.C_below HR298.out HB.out) | (with_reducible refine Kd.C_alloc ?_ _) | (with_reducible refine Kd.C_drewN ?_ _) | (with_reducible refine Kd.C_drew ?_))); (case side2 => exact HC298.out); rintro e w57 ⟨rfl, hb⟩; refine ⟨_, rfl, ?_⟩; replace Q2 := bbl Q2 hb; replace Q3 := bbl Q3 hb; replace HB := bst HB hb; (try clear hb); have hnb58 := Q6.out; have hnc58 := Q1.out; obtain ⟨_, _, _, _, _, _, _, _, _, _⟩ := bcells10 Q3.out; obtain ⟨_, _, _, _, _, _, _, _, _, _⟩ := bfrozen10 Q3.out; obtain ⟨_, _, _, _, _, _, _, _, _, _⟩ := bcells10 Q2.out; obtain ⟨_, _, _, _, _, _, _, _, _, _⟩ := bfrozen10 Q2.out))
              refine bodyPost_ret (results_ct rfl _ _ Qe 29 #[.int .i64 0, .int .i64 0, .int .i64 0, .int .i64 0, .int .i64 0, .int .i64 0, .int .i64 0, .int .i64 0, .int .i64 0, .int .i64 0] (0, 0) _ rfl (by (with_reducible repeat (first | refine qqg ?_ _ | refine qqk ?_ | refine qqh ?_ _)); refine qqv (cs := #[.int .i64 0, .int .i64 0, .int .i64 0, .int .i64 0, .int .i64 0, .int .i64 0, .int .i64 0, .int .i64 0, .int .i64 0, .int .i64 0]) ?_ 9 _ rfl; (with_reducible repeat (first | refine qqg ?_ _ | refine qqk ?_ | refine qqh ?_ _)); refine qqv (cs := #[.int .i64 0, .int .i64 0, .int .i64 0, .int .i64 0, .int .i64 0, .int .i64 0, .int .i64 0, .int .i64 0, .int .i64 0, .int .i64 0]) ?_ 8 _ rfl; (with_reducible repeat (first | refine qqg ?_ _ | refine qqk ?_ | refine qqh ?_ _)); refine qqv (cs := #[.int .i64 0, .int .i64 0, .int .i64 0, .int .i64 0, .int .i64 0, .int .i64 0, .int .i64 0, .int .i64 0, .int .i64 0, .int .i64 0]) ?_ 7 _ rfl; (with_reducible repeat (first | refine qqg ?_ _ | refine qqk ?_ | refine qqh ?_ _)); refine qqv (cs := #[.int .i64 0, .int .i64 0, .int .i64 0, .int .i64 0, .int .i64 0, .int .i64 0, .int .i64 0, .int .i64 0, .int .i64 0, .int .i64 0]) ?_ 6 _ rfl; (with_reducible repeat (first | refine qqg ?_ _ | refine qqk ?_ | refine qqh ?_ _)); refine qqv (cs := #[.int .i64 0, .int .i64 0, .int .i64 0, .int .i64 0, .int .i64 0, .int .i64 0, .int .i64 0, .int .i64 0, .int .i64 0, .int .i64 0]) ?_ 5 _ rfl; (with_reducible repeat (first | refine qqg ?_ _ | refine qqk ?_ | refine qqh ?_ _)); refine qqv (cs := #[.int .i64 0, .int .i64 0, .int .i64 0, .int .i64 0, .int .i64 0, .int .i64 0, .int .i64 0, .int .i64 0, .int .i64 0, .int .i64 0]) ?_ 4 _ rfl; (with_reducible repeat (first | refine qqg ?_ _ | refine qqk ?_ | refine qqh ?_ _)); refine qqv (cs := #[.int .i64 0, .int .i64 0, .int .i64 0, .int .i64 0, .int .i64 0, .int .i64 0, .int .i64 0, .int .i64 0, .int .i64 0, .int .i64 0]) ?_ 3 _ rfl; (with_reducible repeat (first | refine qqg ?_ _ | refine qqk ?_ | refine qqh ?_ _)); refine qqv (cs := #[.int .i64 0, .int .i64 0, .int .i64 0, .int .i64 0, .int .i64 0, .int .i64 0, .int .i64 0, .int .i64 0, .int .i64 0, .int .i64 0]) ?_ 2 _ rfl; (with_reducible repeat (first | refine qqg ?_ _ | refine qqk ?_ | refine qqh ?_ _)); refine qqv (cs := #[.int .i64 0, .int .i64 0, .int .i64 0, .int .i64 0, .int .i64 0, .int .i64 0, .int .i64 0, .int .i64 0, .int .i64 0, .int .i64 0]) ?_ 1 _ rfl; (with_reducible repeat (first | refine qqg ?_ _ | refine qqk ?_ | refine qqh ?_ _)); refine qqv (cs := #[.int .i64 0, .int .i64 0, .int .i64 0, .int .i64 0, .int .i64 0, .int .i64 0, .int .i64 0, .int .i64 0, .int .i64 0, .int .i64 0]) ?_ 0 _ rfl; (with_reducible repeat (first | refine qqg ?_ _ | refine qqk ?_ | refine qqh ?_ _)); refine qqq ?_ Q1.out _; (with_reducible repeat (first | refine qqg ?_ _ | refine qqk ?_ | refine qqh ?_ _)); refine qqq ?_ Q1.out _; (with_reducible repeat (first | refine qqg ?_ _ | refine qqk ?_ | refine qqh ?_ _)); refine qqq ?_ Q1.out _; (with_reducible repeat (first | refine qqg ?_ _ | refine qqk ?_ | refine qqh ?_ _)); refine qqq ?_ Q1.out _; (with_reducible repeat (first | refine qqg ?_ _ | refine qqk ?_ | refine qqh ?_ _)); refine qqq ?_ Q1.out _; (with_reducible repeat (first | refine qqg ?_ _ | refine qqk ?_ | refine qqh ?_ _)); refine qqq ?_ Q1.out _; (with_reducible repeat (first | refine qqg ?_ _ | refine qqk ?_ | refine qqh ?_ _)); exact Q2.out) Tryd.underlying29 rfl (by kernel_rfl)) rfl ?_
              exact ⟨by first | rfl | (simp [qqj, qqi] <;> rfl) | (simp [*, qqj, qqi] <;> rfl), by repeat (first | (with_reducible first | exact HB.out | apply qqc | apply qqa | apply qqb | refine qqd ?_ GE284.out | refine qqd ?_ GE297.out) | exact HB.out)⟩
            ·rw [if_neg c38] at H
             exact absurd H (by simp)
           ·rw [if_neg c37] at H
            exact absurd H (by simp)
          ·rw [if_neg c36] at H
           have c36b0 : (Qn == 18) = false := beq_eq_false_iff_ne.mpr c36
           have c36b1 : (Qn != 18) = true := bne_iff_ne.mpr c36
           replace H := Option.bind_eq_some_iff.mp H
           obtain ⟨t307, A610, H⟩ := H
           replace H : (if t307 = true then (some ((rd Q0 0), (rd Q0 1), (rd Q0 2), (rd Q0 3), 0, 0, 0, 0, 0, 0, 0)) else (some (0, 0, 0, 0, 0, 0, 0, 0, 0, 0, 2))) = some (r1, r2, r3, r4, r5, r6, r7, r8, r9, r10, r11) := H
           have A61 := Aside0.mk A610
           clear A610
           by_cases c62 : t307 = true
           ·subst c62
            have H1 : (some ((rd Q0 0), (rd Q0 1), (rd Q0 2), (rd Q0 3), 0, 0, 0, 0, 0, 0, 0)) = some (r1, r2, r3, r4, r5, r6, r7, r8, r9, r10, r11) := by rw [if_pos rfl] at H; exact H
            clear H
            have H := H1
            clear H1
            simp only [Option.some.injEq, Prod.mk.injEq] at H
            obtain ⟨rfl, rfl, rfl, rfl, rfl, rfl, rfl, rfl, rfl, rfl, rfl⟩ := H
            have hnb63 := Q6.out
            have hnc63 := Q1.out
            obtain ⟨_, _, _, _, _, _, _, _, _, _⟩ := bcells10 Q3.out
            obtain ⟨_, _, _, _, _, _, _, _, _, _⟩ := bfrozen10 Q3.out
            go_wp2_with (first | ((with_reducible refine qqr (f := 15) rfl ?_); refine goesL_ (some 63) rfl rfl Tryd.func15 (by kernel_rfl) rfl #[.agg #[.int .i64 (rd Q0 0), .int .i64 (rd Q0 1), .int .i64 (rd Q0 2), .int .i64 (rd Q0 3), .int .i64 0, .int .i64 0, .int .i64 0, .int .i64 0, .int .i64 0, .int .i64 0]] rfl (by (try simp only [List.map_toArray, List.map_cons, List.map_nil]); first | done | rfl | (simp only [List.length_drop, List.length_take]; rfl)) ?_; (with_reducible refine (msg_May.calls (rd Q0 0) (rd Q0 1) (rd Q0 2) (rd Q0 3) 0 0 0 0 0 0 true _ ?sideG_ A61.out).mono ?_); (case sideG_ => exact hG.below rfl (by repeat (first | (with_reducible first | exact HB.out | apply qqc | apply qqa | apply qqb | refine qqd ?_ GE284.out | refine qqd ?_ GE297.out) | exact HB.out))); rintro e w65 ⟨rfl, hb⟩; refine ⟨_, rfl, ?_⟩; replace Q2 := bbl Q2 hb; replace Q3 := bbl Q3 hb; replace HB := bst HB hb; (try clear hb); obtain ⟨_, _, _, _, _, _, _, _, _, _⟩ := bcells10 Q3.out; obtain ⟨_, _, _, _, _, _, _, _, _, _⟩ := bfrozen10 Q3.out; obtain ⟨_, _, _, _, _, _, _, _, _, _⟩ := bcells10 Q2.out; obtain ⟨_, _, _, _, _, _, _, _, _, _⟩ := bfrozen10 Q2.out))
            refine bodyPost_ret (results_ct rfl _ _ Qe 29 #[.int .i64 (rd Q0 0), .int .i64 (rd Q0 1), .int .i64 (rd Q0 2), .int .i64 (rd Q0 3), .int .i64 0, .int .i64 0, .int .i64 0, .int .i64 0, .int .i64 0, .int .i64 0] (0, 0) _ rfl (by exact bput10 Q2.out) Tryd.underlying29 rfl (by kernel_rfl)) rfl ?_
            exact ⟨by first | rfl | (simp [qqj, qqi] <;> rfl) | (simp [*, qqj, qqi] <;> rfl), by repeat (first | (with_reducible first | exact HB.out | apply qqc | apply qqa | apply qqb | refine qqd ?_ GE284.out | refine qqd ?_ GE297.out) | exact HB.out)⟩
           ·replace c62 := Bool.eq_false_iff.mpr c62
            subst c62
            have H1 : (some (0, 0, 0, 0, 0, 0, 0, 0, 0, 0, 2)) = some (r1, r2, r3, r4, r5, r6, r7, r8, r9, r10, r11) := by rw [if_neg (show ¬ (false = true) by decide)] at H; exact H
            clear H
            have H := H1
            clear H1
            simp only [Option.some.injEq, Prod.mk.injEq] at H
            obtain ⟨rfl, rfl, rfl, rfl, rfl, rfl, rfl, rfl, rfl, rfl, rfl⟩ := H
            have hnb68 := Q6.out
            have hnc68 := Q1.out
            obtain ⟨_, _, _, _, _, _, _, _, _, _⟩ := bcells10 Q3.out
            obtain ⟨_, _, _, _, _, _, _, _, _, _⟩ := bfrozen10 Q3.out
            go_wp2_with (first | ((with_reducible refine qqr (f := 15) rfl ?_); refine goesL_ (some 63) rfl rfl Tryd.func15 (by kernel_rfl) rfl #[.agg #[.int .i64 (rd Q0 0), .int .i64 (rd Q0 1), .int .i64 (rd Q0 2), .int .i64 (rd Q0 3), .int .i64 0, .int .i64 0, .int .i64 0, .int .i64 0, .int .i64 0, .int .i64 0]] rfl (by (try simp only [List.map_toArray, List.map_cons, List.map_nil]); first | done | rfl | (simp only [List.length_drop, List.length_take]; rfl)) ?_; (with_reducible refine (msg_May.calls (rd Q0 0) (rd Q0 1) (rd Q0 2) (rd Q0 3) 0 0 0 0 0 0 false _ ?sideG_ A61.out).mono ?_); (case sideG_ => exact hG.below rfl (by repeat (first | (with_reducible first | exact HB.out | apply qqc | apply qqa | apply qqb | refine qqd ?_ GE284.out | refine qqd ?_ GE297.out) | exact HB.out))); rintro e w70 ⟨rfl, hb⟩; refine ⟨_, rfl, ?_⟩; replace Q2 := bbl Q2 hb; replace Q3 := bbl Q3 hb; replace HB := bst HB hb; (try clear hb); obtain ⟨_, _, _, _, _, _, _, _, _, _⟩ := bcells10 Q2.out; obtain ⟨_, _, _, _, _, _, _, _, _, _⟩ := bfrozen10 Q2.out))
            refine bodyPost_ret (results_ct rfl _ _ Qe 29 #[.int .i64 0, .int .i64 0, .int .i64 0, .int .i64 0, .int .i64 0, .int .i64 0, .int .i64 0, .int .i64 0, .int .i64 0, .int .i64 0] (0, 0) _ rfl (by exact bput10 Q2.out) Tryd.underlying29 rfl (by kernel_rfl)) rfl ?_
            exact ⟨by first | rfl | (simp [qqj, qqi] <;> rfl) | (simp [*, qqj, qqi] <;> rfl), by repeat (first | (with_reducible first | exact HB.out | apply qqc | apply qqa | apply qqb | refine qqd ?_ GE284.out | refine qqd ?_ GE297.out) | exact HB.out)⟩
     ·rw [if_neg c7] at H
      exact absurd H (by simp)
    ·rw [if_neg c6] at H
     exact absurd H (by simp)
   ·rw [if_neg c5] at H
    exact absurd H (by simp)
  ·rw [if_neg c4] at H
   exact absurd H (by simp)
 ·rw [if_neg c3] at H
  have c3b0 : (t292 == 0) = false := beq_eq_false_iff_ne.mpr c3
  have c3b1 : (t292 != 0) = true := bne_iff_ne.mpr c3
  simp only [Option.some.injEq, Prod.mk.injEq] at H
  obtain ⟨rfl, rfl, rfl, rfl, rfl, rfl, rfl, rfl, rfl, rfl, rfl⟩ := H
  go_enter Tryd.func28, Tryd.ntmps28
  go_wp2_with (first | ((with_reducible refine qqs (N := 2) rfl ?_); refine box_event ?hg (N := 2) ?hd (cs := #[.int .i64 0, .int .i64 0, .int .i64 0, .int .i64 0, .int .i64 0, .int .i64 0, .int .i64 0, .int .i64 0, .int .i64 0, .int .i64 0]) (t := 29) ?hr ?_; (case hd => rfl); (case hg => rfl); (case hr => first | (go_simp; done) | (go_simp; rfl)); intro Qe hg w72 hbox hb; have n0_ := bst HB hb; have n1_ := Aside0.mk (hbox); have n2_ := szl HB hg; have n3_ := szl HB hg; clear HB; have HB := n0_; have Q2 := n1_; have GW284 := n2_; have GE284 := n3_; clear n0_ n1_ n2_ n3_; clear hb hbox hg) | ((with_reducible refine qqs (N := 11) rfl ?_); refine Kd.R_lit (Kd.int .i64) _ 3 ?hg (N := 11) ?hd (xs := ([1, 3, 3, 2] : List Int)) (inner := [.int .i64 1, .int .i64 3, .int .i64 3, .int .i64 2]) (ok := fun _ => True) (okp := fun _ => True) ?hr ?hp (fun _ hk => hk) trivial (Below.refl _ _) (Nat.le_refl _) (by simp) ?_; (case hd => rfl); (case hg => rfl); (case hr => first | (go_simp; done) | (go_simp; rfl)); (case hp => exact (Reps.one (show Kd.M (Kd.int .i64) _ _ _ 1 [.int .i64 1] from rfl) (Reps.one (show Kd.M (Kd.int .i64) _ _ _ 3 [.int .i64 3] from rfl) (Reps.one (show Kd.M (Kd.int .i64) _ _ _ 3 [.int .i64 3] from rfl) (Reps.one (show Kd.M (Kd.int .i64) _ _ _ 2 [.int .i64 2] from rfl) (Reps.none _ _)))))); intro v286 w73 ho74 hb hg_ hnew_; clear hg_ hnew_; (first | rw [← Ny285.out] at ho74 | (simp only [Int.reduceToNat] at ho74; rw [← Ny285.out] at ho74)); have Q7 := Aside0.mk (Kd.R_lower ho74 (qqu (by repeat (first | (with_reducible first | exact HB.out | apply qqc | apply qqa | apply qqb | refine qqd ?_ GE284.out) | exact HB.out)))); replace Q2 := bbl Q2 hb; replace HB := bst HB hb; clear hb ho74; obtain ⟨Ao75, co75, eo75⟩ := Kd.R_slice Q7.out; subst eo75) | ((with_reducible refine qqr (f := 38) rfl ?_); refine goesL_ (some 12) rfl rfl Tryd.func38 (by kernel_rfl) rfl #[.slice A0 l0.length c0, .slice Ao75 y285.length co75] rfl (by (try simp only [List.map_toArray, List.map_cons, List.map_nil]); first | done | rfl | (simp only [List.length_drop, List.length_take]; rfl)) ?_; (with_reducible refine (octets_GetAll.calls k (fun k_ => k_ < w.heap.size) _ _ l0 _ _ y285 Q0 Q8 t292 _ ?side1 ?side2 ?side3 A2.out).mono ?_); (case side1 => exact Kd.V_mk HC0.out (Kd.F_below (Kd.C_F (Kd.heap_int .u8) HR0.out) (by repeat (first | (with_reducible first | exact HB.out | apply qqc | apply qqa | apply qqb | refine qqd ?_ GE284.out) | exact HB.out)))); (case side2 => repeat (first | exact (Kd.R_reads' Q7.out).2.2 | (with_reducible refine Kd.C_alloc ?_ _) | (with_reducible refine Kd.C_drewN ?_ _) | (with_reducible refine Kd.C_drew ?_))); (case side3 => exact (Kd.R_reads' Q7.out).2.1); rintro e w76 ⟨v289, rfl, ho0, hb⟩; refine ⟨_, rfl, ?_⟩; have n0_ := Aside0.mk (Kd.R_elder' (by (with_reducible repeat (first | apply Kd.R_alloc | apply Kd.R_drewN | apply Kd.R_drew)); exact Q7.out) (Kd.R_base ho0) hb); have n1_ := Aside0.mk (Kd.R_lower (Kd.R_new' (Kd.R_mono (ok' := fun k_ => True) ho0 (fun _ hk_ => trivial)) (Kd.R_lt (by (with_reducible repeat (first | apply Kd.R_alloc | apply Kd.R_drewN | apply Kd.R_drew)); exact Q7.out))) (qqu (by repeat (first | (with_reducible first | exact HB.out | apply qqc | apply qqa | apply qqb | refine qqd ?_ GE284.out) | exact HB.out)))); have n2_ := bbl Q2 hb; have n3_ := bst HB hb; clear Q7; clear Q2; clear HB; have Q7 := n0_; have Qc := n1_; have Q2 := n2_; have HB := n3_; clear n0_ n1_ n2_ n3_; (try clear hb); (try clear hk); (try clear ho0); obtain ⟨_, _, _, _, _, _, _, _, _, _⟩ := bcells10 Q2.out; obtain ⟨_, _, _, _, _, _, _, _, _, _⟩ := bfrozen10 Q2.out))
  refine bodyPost_ret (results_ct rfl _ _ Qe 29 #[.int .i64 0, .int .i64 0, .int .i64 0, .int .i64 0, .int .i64 0, .int .i64 0, .int .i64 0, .int .i64 0, .int .i64 0, .int .i64 0] (0, 0) _ rfl (by exact bput10 Q2.out) Tryd.underlying29 rfl (by kernel_rfl)) rfl ?_
  exact ⟨by first | rfl | (simp [qqj, qqi] <;> rfl) | (simp [*, qqj, qqi] <;> rfl), by repeat (first | (with_reducible first | exact HB.out | apply qqc | apply qqa | apply qqb | refine qqd ?_ GE284.out) | exact HB.out)⟩
end Go.Proofs.YtpaoofkahhhjaaaDoor.All
