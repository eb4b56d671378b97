/- Contracts of Go functions that this seat comes to, each with a plain function that tells its answers; conditions: those that each contract names. Written by a program of this session (wip/print) over the print words. -/
import Derived.Test.YtpaoofkahhhjaaaDoorQ3Allx0
import Derived.Test.YtpaoofkahhhjaaaDoorQ3Allx2
import Derived.Test.YtpaoofkahhhjaaaDoorQ3Allx10
namespace Go.Proofs.YtpaoofkahhhjaaaDoor.All
open Go.RowKit Go.Proofs.YtpaoofkahhhjaaaDoorW.PrintWords Go.Proofs.YtpaoofkahhhjaaaDoorW.PrintLast Go.Proofs.YtpaoofkahhhjaaaDoorW.PrintMore
attribute [local go_sem] max2_int min2_int max_two min_two max_three min_three max_four min_four
set_option linter.unusedVariables false
set_option linter.unusedSimpArgs false
attribute [local go_sem high] eqA27
mutual
def wayfinderref05_May.j0 : Nat → Bool → Int → Int → Int → Int → Int → Int → Int → Int → Int → Int → Option (Bool)
 | 0, _, _, _, _, _, _, _, _, _, _, _ => none
 | k + 1, x41, x182000, x182001, x182002, x182003, x182004, x182005, x182006, x182007, x182008, x182009 => if x41 = true then (some false) else (if x182000 = 2 then ((wayfinderref04_May.f k x182004 x182005 x182006 x182007 x182008 x182009).bind fun t182 => (if t182 = true then (if x182002 ≥ 1 then (some (decide (x182003 ≥ 1))) else (some false)) else (some false))) else (if ((!(x182004 == 0) || (!(x182005 == 0))) || (!(x182006 == 0) || (!(x182007 == 0) || ((!(x182008 == 0) || (!(x182009 == 0))))))) = true then (some false) else (if x182000 = 0 then (if x182002 = 0 then (some (x182003 == 0)) else (some false)) else (if x182000 = 3 then (wayfinderref05_May.j1 k x182000 (x182000 == 3) x182000 x182001 x182002 x182003 x182004 x182005 x182006 x182007 x182008 x182009) else (wayfinderref05_May.j1 k x182000 (x182000 == 4) x182000 x182001 x182002 x182003 x182004 x182005 x182006 x182007 x182008 x182009)))))
def wayfinderref05_May.j1 : Nat → Int → Bool → Int → Int → Int → Int → Int → Int → Int → Int → Int → Int → Option (Bool)
 | 0, _, _, _, _, _, _, _, _, _, _, _, _ => none
 | k + 1, x64, x75, x182000, x182001, x182002, x182003, x182004, x182005, x182006, x182007, x182008, x182009 => if x75 = true then (if x182002 ≥ 1 then (some (decide (x182003 ≥ 1))) else (some false)) else (if x64 = 5 then (if x182002 ≥ 1 then (some (x182003 == 0)) else (some false)) else (some true))
end
def wayfinderref05_May.f (k : Nat) (a0_0 : Int) (a0_1 : Int) (a0_2 : Int) (a0_3 : Int) (a0_4 : Int) (a0_5 : Int) (a0_6 : Int) (a0_7 : Int) (a0_8 : Int) (a0_9 : Int) : Option (Bool) := if a0_0 < 0 then (wayfinderref05_May.j0 k true a0_0 a0_1 a0_2 a0_3 a0_4 a0_5 a0_6 a0_7 a0_8 a0_9) else (if a0_0 ≥ 6 then (wayfinderref05_May.j0 k true a0_0 a0_1 a0_2 a0_3 a0_4 a0_5 a0_6 a0_7 a0_8 a0_9) else (if a0_1 < 1 then (wayfinderref05_May.j0 k true a0_0 a0_1 a0_2 a0_3 a0_4 a0_5 a0_6 a0_7 a0_8 a0_9) else (if a0_1 > 1048576 then (wayfinderref05_May.j0 k true a0_0 a0_1 a0_2 a0_3 a0_4 a0_5 a0_6 a0_7 a0_8 a0_9) else (if a0_2 < 0 then (wayfinderref05_May.j0 k true a0_0 a0_1 a0_2 a0_3 a0_4 a0_5 a0_6 a0_7 a0_8 a0_9) else (if a0_2 > 1048576 then (wayfinderref05_May.j0 k true a0_0 a0_1 a0_2 a0_3 a0_4 a0_5 a0_6 a0_7 a0_8 a0_9) else (if a0_3 < 0 then (wayfinderref05_May.j0 k true a0_0 a0_1 a0_2 a0_3 a0_4 a0_5 a0_6 a0_7 a0_8 a0_9) else (wayfinderref05_May.j0 k (decide (a0_3 > 4095)) a0_0 a0_1 a0_2 a0_3 a0_4 a0_5 a0_6 a0_7 a0_8 a0_9)))))))
theorem wayfinderref05_May.mono_l : ∀ k, (∀ y0 y1 y2 y3 y4 y5 y6 y7 y8 y9 y10, LeO (wayfinderref05_May.j0 k y0 y1 y2 y3 y4 y5 y6 y7 y8 y9 y10) (wayfinderref05_May.j0 (k + 1) y0 y1 y2 y3 y4 y5 y6 y7 y8 y9 y10)) ∧ (∀ y0 y1 y2 y3 y4 y5 y6 y7 y8 y9 y10 y11, LeO (wayfinderref05_May.j1 k y0 y1 y2 y3 y4 y5 y6 y7 y8 y9 y10 y11) (wayfinderref05_May.j1 (k + 1) y0 y1 y2 y3 y4 y5 y6 y7 y8 y9 y10 y11))
 | 0 => ⟨fun _ _ _ _ _ _ _ _ _ _ _ r h => by simp [wayfinderref05_May.j0] at h, fun _ _ _ _ _ _ _ _ _ _ _ _ r h => by simp [wayfinderref05_May.j1] at h⟩
 | k + 1 => by
  obtain ⟨ih0, ih1⟩ := wayfinderref05_May.mono_l k
  refine ⟨?_, ?_⟩
  ·intro y0 y1 y2 y3 y4 y5 y6 y7 y8 y9 y10
   unfold wayfinderref05_May.j0
   repeat' first
   | (with_reducible exact ih0 _ _ _ _ _ _ _ _ _ _ _)
   | (with_reducible exact ih1 _ _ _ _ _ _ _ _ _ _ _ _)
   | (with_reducible exact wayfinderref04_May.mono _ _ _ _ _ _ _)
   | (with_reducible exact LeO.refl _)
   | (with_reducible exact LeO.none _)
   | (with_reducible refine LeO.ite ?_ ?_)
   | (with_reducible refine LeO.bind ?_ (fun _ => ?_))
   | exact ih0 _ _ _ _ _ _ _ _ _ _ _
   | exact ih1 _ _ _ _ _ _ _ _ _ _ _ _
   | exact wayfinderref04_May.mono _ _ _ _ _ _ _
   | exact LeO.none _
   | refine LeO.ite ?_ ?_
   | refine LeO.bind ?_ (fun _ => ?_)
  ·intro y0 y1 y2 y3 y4 y5 y6 y7 y8 y9 y10 y11
   unfold wayfinderref05_May.j1
   repeat' first
   | (with_reducible exact ih0 _ _ _ _ _ _ _ _ _ _ _)
   | (with_reducible exact ih1 _ _ _ _ _ _ _ _ _ _ _ _)
   | (with_reducible exact wayfinderref04_May.mono _ _ _ _ _ _ _)
   | (with_reducible exact LeO.refl _)
   | (with_reducible exact LeO.none _)
   | (with_reducible refine LeO.ite ?_ ?_)
   | (with_reducible refine LeO.bind ?_ (fun _ => ?_))
   | exact ih0 _ _ _ _ _ _ _ _ _ _ _
   | exact ih1 _ _ _ _ _ _ _ _ _ _ _ _
   | exact wayfinderref04_May.mono _ _ _ _ _ _ _
   | exact LeO.none _
   | refine LeO.ite ?_ ?_
   | refine LeO.bind ?_ (fun _ => ?_)
theorem wayfinderref05_May.mono : ∀ a0 a1 a2 a3 a4 a5 a6 a7 a8 a9 k, LeO (wayfinderref05_May.f k a0 a1 a2 a3 a4 a5 a6 a7 a8 a9) (wayfinderref05_May.f (k + 1) a0 a1 a2 a3 a4 a5 a6 a7 a8 a9) := by
 intro a0 a1 a2 a3 a4 a5 a6 a7 a8 a9 k
 obtain ⟨ih0, ih1⟩ := wayfinderref05_May.mono_l k
 unfold wayfinderref05_May.f
 repeat' first
   | (with_reducible exact ih0 _ _ _ _ _ _ _ _ _ _ _)
   | (with_reducible exact ih1 _ _ _ _ _ _ _ _ _ _ _ _)
   | (with_reducible exact wayfinderref04_May.mono _ _ _ _ _ _ _)
   | (with_reducible exact LeO.refl _)
   | (with_reducible exact LeO.none _)
   | (with_reducible refine LeO.ite ?_ ?_)
   | (with_reducible refine LeO.bind ?_ (fun _ => ?_))
   | exact ih0 _ _ _ _ _ _ _ _ _ _ _
   | exact ih1 _ _ _ _ _ _ _ _ _ _ _ _
   | exact wayfinderref04_May.mono _ _ _ _ _ _ _
   | exact LeO.none _
   | refine LeO.ite ?_ ?_
   | refine LeO.bind ?_ (fun _ => ?_)
set_option maxHeartbeats 8000000 in
set_option maxRecDepth 100000 in
theorem wayfinderref05_May.calls (k : Nat) (a0_0 : Int) (a0_1 : Int) (a0_2 : Int) (a0_3 : Int) (a0_4 : Int) (a0_5 : Int) (a0_6 : Int) (a0_7 : Int) (a0_8 : Int) (a0_9 : Int) (r : Bool) (w : World) (h : wayfinderref05_May.f k a0_0 a0_1 a0_2 a0_3 a0_4 a0_5 a0_6 a0_7 a0_8 a0_9 = some r) :
  Calls Tryd.prog 34 #[.agg #[.int .i64 a0_0, .int .i64 a0_1, .int .i64 a0_2, .int .i64 a0_3, .int .i64 a0_4, .int .i64 a0_5, .int .i64 a0_6, .int .i64 a0_7, .int .i64 a0_8, .int .i64 a0_9]] w fun e w' => e = .returned (.bool r) ∧ Below w.heap.size w w' := by
 have hu29 := Tryd.underlying29
 have hu27 := Tryd.underlying27
 have HB := Aside0.mk (Below.refl w.heap.size w)
 have H : (if a0_0 < 0 then (wayfinderref05_May.j0 k true a0_0 a0_1 a0_2 a0_3 a0_4 a0_5 a0_6 a0_7 a0_8 a0_9) else (if a0_0 ≥ 6 then (wayfinderref05_May.j0 k true a0_0 a0_1 a0_2 a0_3 a0_4 a0_5 a0_6 a0_7 a0_8 a0_9) else (if a0_1 < 1 then (wayfinderref05_May.j0 k true a0_0 a0_1 a0_2 a0_3 a0_4 a0_5 a0_6 a0_7 a0_8 a0_9) else (if a0_1 > 1048576 then (wayfinderref05_May.j0 k true a0_0 a0_1 a0_2 a0_3 a0_4 a0_5 a0_6 a0_7 a0_8 a0_9) else (if a0_2 < 0 then (wayfinderref05_May.j0 k true a0_0 a0_1 a0_2 a0_3 a0_4 a0_5 a0_6 a0_7 a0_8 a0_9) else (if a0_2 > 1048576 then (wayfinderref05_May.j0 k true a0_0 a0_1 a0_2 a0_3 a0_4 a0_5 a0_6 a0_7 a0_8 a0_9) else (if a0_3 < 0 then (wayfinderref05_May.j0 k true a0_0 a0_1 a0_2 a0_3 a0_4 a0_5 a0_6 a0_7 a0_8 a0_9) else (wayfinderref05_May.j0 k (decide (a0_3 > 4095)) a0_0 a0_1 a0_2 a0_3 a0_4 a0_5 a0_6 a0_7 a0_8 a0_9)))))))) = some r := h
 clear h
 have HC2 := Aside0.mk H
 clear H
 go_enter Tryd.func34, Tryd.ntmps34
 go_upto_region 1 with (first | ((with_reducible refine qqr (N := 1) rfl ?_); refine qqw ?hg (N := 1) ?hd (cs := #[.int .i64 a0_0, .int .i64 a0_1, .int .i64 a0_2, .int .i64 a0_3, .int .i64 a0_4, .int .i64 a0_5, .int .i64 a0_6, .int .i64 a0_7, .int .i64 a0_8, .int .i64 a0_9]) (t := 29) ?hr ?_; (case hd => rfl); (case hg => rfl); (case hr => first | (go_simp; done) | (go_simp; rfl)); intro gb181 hg w3 hbox hb; have n0_ := bst HB hb; have n1_ := Aside0.mk (hbox); have n2_ := szl HB hg; have n3_ := szl HB hg; clear HB; have HB := n0_; have Q0 := n1_; have GW181 := n2_; have GE181 := n3_; clear n0_ n1_ n2_ n3_; clear hb hbox hg))
 (try simp only [Act.put, qsA, qsB, qsC])
 go_cut [41] (fun v41 wc => ∃ (kq : Nat) (x41_1 : Bool), v41 = .bool x41_1 ∧ Aside0 (wayfinderref05_May.j0 kq x41_1 a0_0 a0_1 a0_2 a0_3 a0_4 a0_5 a0_6 a0_7 a0_8 a0_9 = some r) ∧ Aside0 (kq ≤ k) ∧ Aside0 (wc.heap[gb181]? = some (.cells #[.int .i64 a0_0, .int .i64 a0_1, .int .i64 a0_2, .int .i64 a0_3, .int .i64 a0_4, .int .i64 a0_5, .int .i64 a0_6, .int .i64 a0_7, .int .i64 a0_8, .int .i64 a0_9] 29 (0, 0))) ∧ Aside0 (Below w.heap.size w wc))
 case first =>
  have H := HC2.out
  clear HC2
  by_cases c4 : a0_0 < 0
  ·rw [if_pos c4] at H
   have c4b0 : decide (a0_0 < 0) = true := decide_eq_true c4
   clear c4
   (first | rw [c4b0] | (simp only [qqs, qqu]; rw [c4b0]) | skip)
   have H' := Aside0.mk H
   clear H
   obtain ⟨hcz5_0, hcz5_1, hcz5_2, hcz5_3, hcz5_4, hcz5_5, hcz5_6, hcz5_7, hcz5_8, hcz5_9⟩ := qqz Q0.out
   obtain ⟨hfz5_0, hfz5_1, hfz5_2, hfz5_3, hfz5_4, hfz5_5, hfz5_6, hfz5_7, hfz5_8, hfz5_9⟩ := qqx Q0.out
   go_wp2
   go_meet
   case rel => exact ⟨_, (true), (by first | rfl | (simp; done) | (simp [*]; done)), H', ⟨by first | omega | exact Nat.le_refl _⟩, ⟨by (with_reducible repeat (first | refine qqd ?_ _ | refine qqf ?_ | refine qqe ?_ _)); exact Q0.out⟩, ⟨by repeat (first | (with_reducible first | exact HB.out | apply qqc | apply qqa | apply qqb | refine qqg ?_ GE181.out) | exact HB.out)⟩⟩
  ·rw [if_neg c4] at H
   have c4b0 : decide (a0_0 < 0) = false := decide_eq_false c4
   clear c4
   (first | rw [c4b0] | (simp only [qqs, qqu]; rw [c4b0]) | skip)
   by_cases c6 : a0_0 ≥ 6
   ·rw [if_pos c6] at H
    have c6b0 : decide (6 ≤ a0_0) = true := decide_eq_true c6
    clear c6
    have H' := Aside0.mk H
    clear H
    obtain ⟨hcz7_0, hcz7_1, hcz7_2, hcz7_3, hcz7_4, hcz7_5, hcz7_6, hcz7_7, hcz7_8, hcz7_9⟩ := qqz Q0.out
    obtain ⟨hfz7_0, hfz7_1, hfz7_2, hfz7_3, hfz7_4, hfz7_5, hfz7_6, hfz7_7, hfz7_8, hfz7_9⟩ := qqx Q0.out
    go_wp2
    go_meet
    case rel => exact ⟨_, (true), (by first | rfl | (simp; done) | (simp [*]; done)), H', ⟨by first | omega | exact Nat.le_refl _⟩, ⟨by (with_reducible repeat (first | refine qqd ?_ _ | refine qqf ?_ | refine qqe ?_ _)); exact Q0.out⟩, ⟨by repeat (first | (with_reducible first | exact HB.out | apply qqc | apply qqa | apply qqb | refine qqg ?_ GE181.out) | exact HB.out)⟩⟩
   ·rw [if_neg c6] at H
    have c6b0 : decide (6 ≤ a0_0) = false := decide_eq_false c6
    clear c6
    by_cases c8 : a0_1 < 1
    ·rw [if_pos c8] at H
     have c8b0 : decide (a0_1 < 1) = true := decide_eq_true c8
     clear c8
     have H' := Aside0.mk H
     clear H
     obtain ⟨hcz9_0, hcz9_1, hcz9_2, hcz9_3, hcz9_4, hcz9_5, hcz9_6, hcz9_7, hcz9_8, hcz9_9⟩ := qqz Q0.out
     obtain ⟨hfz9_0, hfz9_1, hfz9_2, hfz9_3, hfz9_4, hfz9_5, hfz9_6, hfz9_7, hfz9_8, hfz9_9⟩ := qqx Q0.out
     go_wp2
     go_meet
     case rel => exact ⟨_, (true), (by first | rfl | (simp; done) | (simp [*]; done)), H', ⟨by first | omega | exact Nat.le_refl _⟩, ⟨by (with_reducible repeat (first | refine qqd ?_ _ | refine qqf ?_ | refine qqe ?_ _)); exact Q0.out⟩, ⟨by repeat (first | (with_reducible first | exact HB.out | apply qqc | apply qqa | apply qqb | refine qqg ?_ GE181.out) | exact HB.out)⟩⟩
    ·rw [if_neg c8] at H
     have c8b0 : decide (a0_1 < 1) = false := decide_eq_false c8
     clear c8
     by_cases c10 : a0_1 > 1048576
     ·rw [if_pos c10] at H
      have c10b0 : decide (1048576 < a0_1) = true := decide_eq_true c10
      clear c10
      have H' := Aside0.mk H
      clear H
      obtain ⟨Q3, Q4, Q5, Q6, Q7, Q8, Q9, Qa, Qb, Qc⟩ := qqz Q0.out
      obtain ⟨Qd, Qe, Qf, Qg, Qh, Qi, Qj, Qk, Qm, Qn⟩ := qqx Q0.out
      go_wp2
      go_meet
      case rel => exact ⟨_, (true), (by first | rfl | (simp; done) | (simp [*]; done)), H', ⟨by first | omega | exact Nat.le_refl _⟩, ⟨by (with_reducible repeat (first | refine qqd ?_ _ | refine qqf ?_ | refine qqe ?_ _)); exact Q0.out⟩, ⟨by repeat (first | (with_reducible first | exact HB.out | apply qqc | apply qqa | apply qqb | refine qqg ?_ GE181.out) | exact HB.out)⟩⟩
     ·rw [if_neg c10] at H
      have c10b0 : decide (1048576 < a0_1) = false := decide_eq_false c10
      clear c10
      by_cases c12 : a0_2 < 0
      ·rw [if_pos c12] at H
       have c12b0 : decide (a0_2 < 0) = true := decide_eq_true c12
       clear c12
       have H' := Aside0.mk H
       clear H
       obtain ⟨Qo, Qp, Qq, Qr, Qs, Qt, Qu, Qv, Qw, Qx⟩ := qqz Q0.out
       obtain ⟨Qy, Qz, X0, X1, X2, X3, X4, X5, X6, X7⟩ := qqx Q0.out
       go_wp2
       go_meet
       case rel => exact ⟨_, (true), (by first | rfl | (simp; done) | (simp [*]; done)), H', ⟨by first | omega | exact Nat.le_refl _⟩, ⟨by (with_reducible repeat (first | refine qqd ?_ _ | refine qqf ?_ | refine qqe ?_ _)); exact Q0.out⟩, ⟨by repeat (first | (with_reducible first | exact HB.out | apply qqc | apply qqa | apply qqb | refine qqg ?_ GE181.out) | exact HB.out)⟩⟩
      ·rw [if_neg c12] at H
       have c12b0 : decide (a0_2 < 0) = false := decide_eq_false c12
       clear c12
       by_cases c14 : a0_2 > 1048576
       ·rw [if_pos c14] at H
        have c14b0 : decide (1048576 < a0_2) = true := decide_eq_true c14
        clear c14
        have H' := Aside0.mk H
        clear H
        obtain ⟨X8, X9, Xa, Xb, Xc, Xd, Xe, Xf, Xg, Xh⟩ := qqz Q0.out
        obtain ⟨Xi, Xj, Xk, Xm, Xn, Xo, Xp, Xq, Xr, Xs⟩ := qqx Q0.out
        go_wp2
        go_meet
        case rel => exact ⟨_, (true), (by first | rfl | (simp; done) | (simp [*]; done)), H', ⟨by first | omega | exact Nat.le_refl _⟩, ⟨by (with_reducible repeat (first | refine qqd ?_ _ | refine qqf ?_ | refine qqe ?_ _)); exact Q0.out⟩, ⟨by repeat (first | (with_reducible first | exact HB.out | apply qqc | apply qqa | apply qqb | refine qqg ?_ GE181.out) | exact HB.out)⟩⟩
       ·rw [if_neg c14] at H
        have c14b0 : decide (1048576 < a0_2) = false := decide_eq_false c14
        clear c14
        by_cases c16 : a0_3 < 0
        ·rw [if_pos c16] at H
         have c16b0 : decide (a0_3 < 0) = true := decide_eq_true c16
         clear c16
         have H' := Aside0.mk H
         clear H
         obtain ⟨Xt, Xu, Xv, Xw, Xx, Xy, Xz, Y0, Y1, Y2⟩ := qqz Q0.out
         obtain ⟨Y3, Y4, Y5, Y6, Y7, Y8, Y9, Ya, Yb, Yc⟩ := qqx Q0.out
         go_wp2
         go_meet
         case rel => exact ⟨_, (true), (by first | rfl | (simp; done) | (simp [*]; done)), H', ⟨by first | omega | exact Nat.le_refl _⟩, ⟨by (with_reducible repeat (first | refine qqd ?_ _ | refine qqf ?_ | refine qqe ?_ _)); exact Q0.out⟩, ⟨by repeat (first | (with_reducible first | exact HB.out | apply qqc | apply qqa | apply qqb | refine qqg ?_ GE181.out) | exact HB.out)⟩⟩
        ·rw [if_neg c16] at H
         have c16b0 : decide (a0_3 < 0) = false := decide_eq_false c16
         clear c16
         have H' := Aside0.mk H
         clear H
         obtain ⟨Yd, Ye, Yf, Yg, Yh, Yi, Yj, Yk, Ym, Yn⟩ := qqz Q0.out
         obtain ⟨Yo, Yp, Yq, Yr, Ys, Yt, Yu, Yv, Yw, Yx⟩ := qqx Q0.out
         go_wp2
         go_meet
         case rel => exact ⟨_, (decide (a0_3 > 4095)), (by first | rfl | (simp; done) | (simp [*]; done)), H', ⟨by first | omega | exact Nat.le_refl _⟩, ⟨by (with_reducible repeat (first | refine qqd ?_ _ | refine qqf ?_ | refine qqe ?_ _)); exact Q0.out⟩, ⟨by repeat (first | (with_reducible first | exact HB.out | apply qqc | apply qqa | apply qqb | refine qqg ?_ GE181.out) | exact HB.out)⟩⟩
 case rest =>
  clear HC2
  try clear c1
  try clear p2
  try clear c3
  try clear c4
  try clear c4b0
  try clear c6
  try clear c6b0
  try clear c8
  try clear c8b0
  try clear c10
  try clear c10b0
  try clear c12
  try clear c12b0
  try clear c14
  try clear c14b0
  try clear c16
  try clear c16b0
  try clear Q3
  try clear Q4
  try clear Q5
  try clear Q6
  try clear Q7
  try clear Q8
  try clear Q9
  try clear Qa
  try clear Qb
  try clear Qc
  try clear Qo
  try clear Qp
  try clear Qq
  try clear Qr
  try clear Qs
  try clear Qt
  try clear Qu
  try clear Qv
  try clear Qw
  try clear Qx
  try clear X8
  try clear X9
  try clear Xa
  try clear Xb
  try clear Xc
  try clear Xd
  try clear Xe
  try clear Xf
  try clear Xg
  try clear Xh
  try clear Xt
  try clear Xu
  try clear Xv
  try clear Xw
  try clear Xx
  try clear Xy
  try clear Xz
  try clear Y0
  try clear Y1
  try clear Y2
  try clear Yd
  try clear Ye
  try clear Yf
  try clear Yg
  try clear Yh
  try clear Yi
  try clear Yj
  try clear Yk
  try clear Ym
  try clear Yn
  try clear hcz5_0
  try clear hcz5_1
  try clear hcz5_2
  try clear hcz5_3
  try clear hcz5_4
  try clear hcz5_5
  try clear hcz5_6
  try clear hcz5_7
  try clear hcz5_8
  try clear hcz5_9
  try clear hcz7_0
  try clear hcz7_1
  try clear hcz7_2
  try clear hcz7_3
  try clear hcz7_4
  try clear hcz7_5
  try clear hcz7_6
  try clear hcz7_7
  try clear hcz7_8
  try clear hcz7_9
  try clear hcz9_0
  try clear hcz9_1
  try clear hcz9_2
  try clear hcz9_3
  try clear hcz9_4
  try clear hcz9_5
  try clear hcz9_6
  try clear hcz9_7
  try clear hcz9_8
  try clear hcz9_9
  try clear Qd
  try clear Qe
  try clear Qf
  try clear Qg
  try clear Qh
  try clear Qi
  try clear Qj
  try clear Qk
  try clear Qm
  try clear Qn
  try clear Qy
  try clear Qz
  try clear X0
  try clear X1
  try clear X2
  try clear X3
  try clear X4
  try clear X5
  try clear X6
  try clear X7
  try clear Xi
  try clear Xj
  try clear Xk
  try clear Xm
  try clear Xn
  try clear Xo
  try clear Xp
  try clear Xq
  try clear Xr
  try clear Xs
  try clear Y3
  try clear Y4
  try clear Y5
  try clear Y6
  try clear Y7
  try clear Y8
  try clear Y9
  try clear Ya
  try clear Yb
  try clear Yc
  try clear Yo
  try clear Yp
  try clear Yq
  try clear Yr
  try clear Ys
  try clear Yt
  try clear Yu
  try clear Yv
  try clear Yw
  try clear Yx
  try clear hfz5_0
  try clear hfz5_1
  try clear hfz5_2
  try clear hfz5_3
  try clear hfz5_4
  try clear hfz5_5
  try clear hfz5_6
  try clear hfz5_7
  try clear hfz5_8
  try clear hfz5_9
  try clear hfz7_0
  try clear hfz7_1
  try clear hfz7_2
  try clear hfz7_3
  try clear hfz7_4
  try clear hfz7_5
  try clear hfz7_6
  try clear hfz7_7
  try clear hfz7_8
  try clear hfz7_9
  try clear hfz9_0
  try clear hfz9_1
  try clear hfz9_2
  try clear hfz9_3
  try clear hfz9_4
  try clear hfz9_5
  try clear hfz9_6
  try clear hfz9_7
  try clear hfz9_8
  try clear hfz9_9
  obtain ⟨kq, x41_1, rfl, HA, HJ1, Q0, HB⟩ := hcut
  cases kq with
  | zero => exact absurd HA.out (by simp [wayfinderref05_May.j0])
  | succ kj1 =>
   have H := HA.out
   clear HA
   simp only [wayfinderref05_May.j0] at H
   by_cases c19 : x41_1 = true
   ·subst c19
    have H1 : (some false) = some r := by rw [if_pos rfl] at H; exact H
    clear H
    have H := H1
    clear H1
    obtain rfl := Option.some.inj H
    go_wp2
    go_ret
    exact ⟨by first | rfl | (simp [qqk, qqj] <;> rfl) | (simp [*, qqk, qqj] <;> rfl), by repeat (first | (with_reducible first | exact HB.out | apply qqc | apply qqa | apply qqb | refine qqg ?_ GE181.out) | exact HB.out)⟩
   ·replace c19 := Bool.eq_false_iff.mpr c19
    subst c19
    have H1 : (if a0_0 = 2 then ((wayfinderref04_May.f kj1 a0_4 a0_5 a0_6 a0_7 a0_8 a0_9).bind fun t182 => (if t182 = true then (if a0_2 ≥ 1 then (some (decide (a0_3 ≥ 1))) else (some false)) else (some false))) else (if ((!(a0_4 == 0) || (!(a0_5 == 0))) || (!(a0_6 == 0) || (!(a0_7 == 0) || ((!(a0_8 == 0) || (!(a0_9 == 0))))))) = true then (some false) else (if a0_0 = 0 then (if a0_2 = 0 then (some (a0_3 == 0)) else (some false)) else (if a0_0 = 3 then (wayfinderref05_May.j1 kj1 a0_0 (a0_0 == 3) a0_0 a0_1 a0_2 a0_3 a0_4 a0_5 a0_6 a0_7 a0_8 a0_9) else (wayfinderref05_May.j1 kj1 a0_0 (a0_0 == 4) a0_0 a0_1 a0_2 a0_3 a0_4 a0_5 a0_6 a0_7 a0_8 a0_9))))) = some r := by rw [if_neg (show ¬ (false = true) by decide)] at H; exact H
    clear H
    have H := H1
    clear H1
    by_cases c20 : a0_0 = 2
    ·rw [if_pos c20] at H
     have c20b0 : (a0_0 == 2) = true := beq_iff_eq.mpr c20
     have c20b1 : (a0_0 != 2) = false := bne_eq_false_iff_eq.mpr c20
     clear c20
     replace H := Option.bind_eq_some_iff.mp H
     obtain ⟨t182, A210, H⟩ := H
     replace H : (if t182 = true then (if a0_2 ≥ 1 then (some (decide (a0_3 ≥ 1))) else (some false)) else (some false)) = some r := H
     have A21 := Aside0.mk A210
     clear A210
     by_cases c22 : t182 = true
     ·subst c22
      have H1 : (if a0_2 ≥ 1 then (some (decide (a0_3 ≥ 1))) else (some false)) = some r := by rw [if_pos rfl] at H; exact H
      clear H
      have H := H1
      clear H1
      by_cases c23 : a0_2 ≥ 1
      ·rw [if_pos c23] at H
       have c23b0 : decide (1 ≤ a0_2) = true := decide_eq_true c23
       clear c23
       obtain rfl := Option.some.inj H
       obtain ⟨hcz24_0, hcz24_1, hcz24_2, hcz24_3, hcz24_4, hcz24_5, hcz24_6, hcz24_7, hcz24_8, hcz24_9⟩ := qqz Q0.out
       obtain ⟨hfz24_0, hfz24_1, hfz24_2, hfz24_3, hfz24_4, hfz24_5, hfz24_6, hfz24_7, hfz24_8, hfz24_9⟩ := qqx Q0.out
       go_wp2_with (first | ((with_reducible refine qqo (f := 44) rfl ?_); refine goesL_ (some 47) rfl rfl Tryd.func44 (by kernel_rfl) rfl #[.agg #[.int .i64 a0_4, .int .i64 a0_5, .int .i64 a0_6, .int .i64 a0_7, .int .i64 a0_8, .int .i64 a0_9]] rfl (by (try simp only [List.map_toArray, List.map_cons, List.map_nil]); first | done | rfl | (simp only [List.length_drop, List.length_take]; rfl)) ?_; (with_reducible refine (wayfinderref04_May.calls kj1 a0_4 a0_5 a0_6 a0_7 a0_8 a0_9 true _ A21.out).mono ?_); rintro e w25 ⟨rfl, hb⟩; refine ⟨_, rfl, ?_⟩; replace Q0 := bbl Q0 hb; replace HB := bst HB hb; (try clear hb); obtain ⟨hcz26_0, hcz26_1, hcz26_2, hcz26_3, hcz26_4, hcz26_5, hcz26_6, hcz26_7, hcz26_8, hcz26_9⟩ := qqz Q0.out; obtain ⟨hfz26_0, hfz26_1, hfz26_2, hfz26_3, hfz26_4, hfz26_5, hfz26_6, hfz26_7, hfz26_8, hfz26_9⟩ := qqx Q0.out))
       go_ret
       exact ⟨by first | rfl | (simp [qqk, qqj] <;> rfl) | (simp [*, qqk, qqj] <;> rfl), by repeat (first | (with_reducible first | exact HB.out | apply qqc | apply qqa | apply qqb | refine qqg ?_ GE181.out) | exact HB.out)⟩
      ·rw [if_neg c23] at H
       have c23b0 : decide (1 ≤ a0_2) = false := decide_eq_false c23
       clear c23
       obtain rfl := Option.some.inj H
       obtain ⟨hcz27_0, hcz27_1, hcz27_2, hcz27_3, hcz27_4, hcz27_5, hcz27_6, hcz27_7, hcz27_8, hcz27_9⟩ := qqz Q0.out
       obtain ⟨hfz27_0, hfz27_1, hfz27_2, hfz27_3, hfz27_4, hfz27_5, hfz27_6, hfz27_7, hfz27_8, hfz27_9⟩ := qqx Q0.out
       go_wp2_with (first | ((with_reducible refine qqo (f := 44) rfl ?_); refine goesL_ (some 47) rfl rfl Tryd.func44 (by kernel_rfl) rfl #[.agg #[.int .i64 a0_4, .int .i64 a0_5, .int .i64 a0_6, .int .i64 a0_7, .int .i64 a0_8, .int .i64 a0_9]] rfl (by (try simp only [List.map_toArray, List.map_cons, List.map_nil]); first | done | rfl | (simp only [List.length_drop, List.length_take]; rfl)) ?_; (with_reducible refine (wayfinderref04_May.calls kj1 a0_4 a0_5 a0_6 a0_7 a0_8 a0_9 true _ A21.out).mono ?_); rintro e w28 ⟨rfl, hb⟩; refine ⟨_, rfl, ?_⟩; replace Q0 := bbl Q0 hb; replace HB := bst HB hb; (try clear hb); obtain ⟨hcz29_0, hcz29_1, hcz29_2, hcz29_3, hcz29_4, hcz29_5, hcz29_6, hcz29_7, hcz29_8, hcz29_9⟩ := qqz Q0.out; obtain ⟨hfz29_0, hfz29_1, hfz29_2, hfz29_3, hfz29_4, hfz29_5, hfz29_6, hfz29_7, hfz29_8, hfz29_9⟩ := qqx Q0.out))
       go_ret
       exact ⟨by first | rfl | (simp [qqk, qqj] <;> rfl) | (simp [*, qqk, qqj] <;> rfl), by repeat (first | (with_reducible first | exact HB.out | apply qqc | apply qqa | apply qqb | refine qqg ?_ GE181.out) | exact HB.out)⟩
     ·replace c22 := Bool.eq_false_iff.mpr c22
      subst c22
      have H1 : (some false) = some r := by rw [if_neg (show ¬ (false = true) by decide)] at H; exact H
      clear H
      have H := H1
      clear H1
      obtain rfl := Option.some.inj H
      obtain ⟨hcz30_0, hcz30_1, hcz30_2, hcz30_3, hcz30_4, hcz30_5, hcz30_6, hcz30_7, hcz30_8, hcz30_9⟩ := qqz Q0.out
      obtain ⟨hfz30_0, hfz30_1, hfz30_2, hfz30_3, hfz30_4, hfz30_5, hfz30_6, hfz30_7, hfz30_8, hfz30_9⟩ := qqx Q0.out
      go_wp2_with (first | ((with_reducible refine qqo (f := 44) rfl ?_); refine goesL_ (some 47) rfl rfl Tryd.func44 (by kernel_rfl) rfl #[.agg #[.int .i64 a0_4, .int .i64 a0_5, .int .i64 a0_6, .int .i64 a0_7, .int .i64 a0_8, .int .i64 a0_9]] rfl (by (try simp only [List.map_toArray, List.map_cons, List.map_nil]); first | done | rfl | (simp only [List.length_drop, List.length_take]; rfl)) ?_; (with_reducible refine (wayfinderref04_May.calls kj1 a0_4 a0_5 a0_6 a0_7 a0_8 a0_9 false _ A21.out).mono ?_); rintro e w31 ⟨rfl, hb⟩; refine ⟨_, rfl, ?_⟩; replace Q0 := bbl Q0 hb; replace HB := bst HB hb; (try clear hb)))
      go_ret
      exact ⟨by first | rfl | (simp [qqk, qqj] <;> rfl) | (simp [*, qqk, qqj] <;> rfl), by repeat (first | (with_reducible first | exact HB.out | apply qqc | apply qqa | apply qqb | refine qqg ?_ GE181.out) | exact HB.out)⟩
    ·rw [if_neg c20] at H
     have c20b0 : (a0_0 == 2) = false := beq_eq_false_iff_ne.mpr c20
     have c20b1 : (a0_0 != 2) = true := bne_iff_ne.mpr c20
     by_cases c32 : ((!(a0_4 == 0) || (!(a0_5 == 0))) || (!(a0_6 == 0) || (!(a0_7 == 0) || ((!(a0_8 == 0) || (!(a0_9 == 0))))))) = true
     ·rw [if_pos c32] at H
      have c32b0 : ((!(a0_4 == 0) || (!(a0_5 == 0))) || (!(a0_6 == 0) || (!(a0_7 == 0) || ((!(a0_8 == 0) || (!(a0_9 == 0))))))) = true := c32
      clear c32
      obtain rfl := Option.some.inj H
      obtain ⟨hcz33_0, hcz33_1, hcz33_2, hcz33_3, hcz33_4, hcz33_5, hcz33_6, hcz33_7, hcz33_8, hcz33_9⟩ := qqz Q0.out
      obtain ⟨hfz33_0, hfz33_1, hfz33_2, hfz33_3, hfz33_4, hfz33_5, hfz33_6, hfz33_7, hfz33_8, hfz33_9⟩ := qqx Q0.out
      go_wp2
      go_ret
      exact ⟨by first | rfl | (simp [qqk, qqj] <;> rfl) | (simp [*, qqk, qqj] <;> rfl), by repeat (first | (with_reducible first | exact HB.out | apply qqc | apply qqa | apply qqb | refine qqg ?_ GE181.out) | exact HB.out)⟩
     ·rw [if_neg c32] at H
      have c32b0 : ((!(a0_4 == 0) || (!(a0_5 == 0))) || (!(a0_6 == 0) || (!(a0_7 == 0) || ((!(a0_8 == 0) || (!(a0_9 == 0))))))) = false := by simpa using c32
      clear c32
      by_cases c34 : a0_0 = 0
      ·rw [if_pos c34] at H
       have c34b0 : (a0_0 == 0) = true := beq_iff_eq.mpr c34
       have c34b1 : (a0_0 != 0) = false := bne_eq_false_iff_eq.mpr c34
       clear c34
       by_cases c35 : a0_2 = 0
       ·rw [if_pos c35] at H
        have c35b0 : (a0_2 == 0) = true := beq_iff_eq.mpr c35
        have c35b1 : (a0_2 != 0) = false := bne_eq_false_iff_eq.mpr c35
        clear c35
        obtain rfl := Option.some.inj H
        obtain ⟨hcz36_0, hcz36_1, hcz36_2, hcz36_3, hcz36_4, hcz36_5, hcz36_6, hcz36_7, hcz36_8, hcz36_9⟩ := qqz Q0.out
        obtain ⟨hfz36_0, hfz36_1, hfz36_2, hfz36_3, hfz36_4, hfz36_5, hfz36_6, hfz36_7, hfz36_8, hfz36_9⟩ := qqx Q0.out
        go_wp2
        go_ret
        exact ⟨by first | rfl | (simp [qqk, qqj] <;> rfl) | (simp [*, qqk, qqj] <;> rfl), by repeat (first | (with_reducible first | exact HB.out | apply qqc | apply qqa | apply qqb | refine qqg ?_ GE181.out) | exact HB.out)⟩
       ·rw [if_neg c35] at H
        have c35b0 : (a0_2 == 0) = false := beq_eq_false_iff_ne.mpr c35
        have c35b1 : (a0_2 != 0) = true := bne_iff_ne.mpr c35
        obtain rfl := Option.some.inj H
        obtain ⟨hcz37_0, hcz37_1, hcz37_2, hcz37_3, hcz37_4, hcz37_5, hcz37_6, hcz37_7, hcz37_8, hcz37_9⟩ := qqz Q0.out
        obtain ⟨hfz37_0, hfz37_1, hfz37_2, hfz37_3, hfz37_4, hfz37_5, hfz37_6, hfz37_7, hfz37_8, hfz37_9⟩ := qqx Q0.out
        go_wp2
        go_ret
        exact ⟨by first | rfl | (simp [qqk, qqj] <;> rfl) | (simp [*, qqk, qqj] <;> rfl), by repeat (first | (with_reducible first | exact HB.out | apply qqc | apply qqa | apply qqb | refine qqg ?_ GE181.out) | exact HB.out)⟩
      ·rw [if_neg c34] at H
       have c34b0 : (a0_0 == 0) = false := beq_eq_false_iff_ne.mpr c34
       have c34b1 : (a0_0 != 0) = true := bne_iff_ne.mpr c34
       have HC38 := Aside0.mk H
       clear H
       obtain ⟨hcz39_0, hcz39_1, hcz39_2, hcz39_3, hcz39_4, hcz39_5, hcz39_6, hcz39_7, hcz39_8, hcz39_9⟩ := qqz Q0.out
       obtain ⟨hfz39_0, hfz39_1, hfz39_2, hfz39_3, hfz39_4, hfz39_5, hfz39_6, hfz39_7, hfz39_8, hfz39_9⟩ := qqx Q0.out
       go_upto_if 75 with (fail)
       go_cut [75] (fun v75 wc => ∃ (kq : Nat) (Q2 : Bool), v75 = .bool Q2 ∧ Aside0 (wayfinderref05_May.j1 kq a0_0 Q2 a0_0 a0_1 a0_2 a0_3 a0_4 a0_5 a0_6 a0_7 a0_8 a0_9 = some r) ∧ Aside0 (kq ≤ kj1) ∧ Aside0 (wc.heap[gb181]? = some (.cells #[.int .i64 a0_0, .int .i64 a0_1, .int .i64 a0_2, .int .i64 a0_3, .int .i64 a0_4, .int .i64 a0_5, .int .i64 a0_6, .int .i64 a0_7, .int .i64 a0_8, .int .i64 a0_9] 29 (0, 0))) ∧ Aside0 (Below w.heap.size w wc))
       case first =>
        have H := HC38.out
        clear HC38
        by_cases c40 : a0_0 = 3
        ·rw [if_pos c40] at H
         have Q1 : (a0_0 == 3) = true := beq_iff_eq.mpr c40
         have c40b1 : (a0_0 != 3) = false := bne_eq_false_iff_eq.mpr c40
         clear c40
         (first | rw [Q1] | (simp only [qqs, qqu]; rw [Q1]) | skip)
         have H' := Aside0.mk H
         clear H
         go_wp2
         go_meet
         case rel => exact ⟨_, ((a0_0 == 3)), (by first | rfl | (simp; done) | (simp [*]; done)), H', ⟨by have := HJ1.out; first | omega | exact Nat.le_refl _⟩, ⟨by (with_reducible repeat (first | refine qqd ?_ _ | refine qqf ?_ | refine qqe ?_ _)); exact Q0.out⟩, ⟨by repeat (first | (with_reducible first | exact HB.out | apply qqc | apply qqa | apply qqb | refine qqg ?_ GE181.out) | exact HB.out)⟩⟩
        ·rw [if_neg c40] at H
         have Q1 : (a0_0 == 3) = false := beq_eq_false_iff_ne.mpr c40
         have c40b1 : (a0_0 != 3) = true := bne_iff_ne.mpr c40
         (first | rw [Q1] | (simp only [qqs, qqu]; rw [Q1]) | skip)
         have H' := Aside0.mk H
         clear H
         go_wp2
         go_meet
         case rel => exact ⟨_, ((a0_0 == 4)), (by first | rfl | (simp; done) | (simp [*]; done)), H', ⟨by have := HJ1.out; first | omega | exact Nat.le_refl _⟩, ⟨by (with_reducible repeat (first | refine qqd ?_ _ | refine qqf ?_ | refine qqe ?_ _)); exact Q0.out⟩, ⟨by repeat (first | (with_reducible first | exact HB.out | apply qqc | apply qqa | apply qqb | refine qqg ?_ GE181.out) | exact HB.out)⟩⟩
       case rest =>
        clear HC38
        try clear c1
        try clear c2
        try clear p2
        try clear c3
        try clear c4
        try clear c4b0
        try clear c6
        try clear c6b0
        try clear c8
        try clear c8b0
        try clear c10
        try clear c10b0
        try clear c12
        try clear c12b0
        try clear c14
        try clear c14b0
        try clear c16
        try clear c16b0
        try clear c19
        try clear c20
        try clear c20b0
        try clear c20b1
        try clear c22
        try clear c23
        try clear c23b0
        try clear c32
        try clear c32b0
        try clear c34
        try clear c34b0
        try clear c34b1
        try clear c35
        try clear c35b0
        try clear c35b1
        try clear c40
        try clear Q1
        try clear c40b1
        try clear Q3
        try clear Q4
        try clear Q5
        try clear Q6
        try clear Q7
        try clear Q8
        try clear Q9
        try clear Qa
        try clear Qb
        try clear Qc
        try clear Qo
        try clear Qp
        try clear Qq
        try clear Qr
        try clear Qs
        try clear Qt
        try clear Qu
        try clear Qv
        try clear Qw
        try clear Qx
        try clear X8
        try clear X9
        try clear Xa
        try clear Xb
        try clear Xc
        try clear Xd
        try clear Xe
        try clear Xf
        try clear Xg
        try clear Xh
        try clear Xt
        try clear Xu
        try clear Xv
        try clear Xw
        try clear Xx
        try clear Xy
        try clear Xz
        try clear Y0
        try clear Y1
        try clear Y2
        try clear Yd
        try clear Ye
        try clear Yf
        try clear Yg
        try clear Yh
        try clear Yi
        try clear Yj
        try clear Yk
        try clear Ym
        try clear Yn
        try clear hcz24_0
        try clear hcz24_1
        try clear hcz24_2
        try clear hcz24_3
        try clear hcz24_4
        try clear hcz24_5
        try clear hcz24_6
        try clear hcz24_7
        try clear hcz24_8
        try clear hcz24_9
        try clear hcz26_0
        try clear hcz26_1
        try clear hcz26_2
        try clear hcz26_3
        try clear hcz26_4
        try clear hcz26_5
        try clear hcz26_6
        try clear hcz26_7
        try clear hcz26_8
        try clear hcz26_9
        try clear hcz27_0
        try clear hcz27_1
        try clear hcz27_2
        try clear hcz27_3
        try clear hcz27_4
        try clear hcz27_5
        try clear hcz27_6
        try clear hcz27_7
        try clear hcz27_8
        try clear hcz27_9
        try clear hcz29_0
        try clear hcz29_1
        try clear hcz29_2
        try clear hcz29_3
        try clear hcz29_4
        try clear hcz29_5
        try clear hcz29_6
        try clear hcz29_7
        try clear hcz29_8
        try clear hcz29_9
        try clear hcz30_0
        try clear hcz30_1
        try clear hcz30_2
        try clear hcz30_3
        try clear hcz30_4
        try clear hcz30_5
        try clear hcz30_6
        try clear hcz30_7
        try clear hcz30_8
        try clear hcz30_9
        try clear hcz33_0
        try clear hcz33_1
        try clear hcz33_2
        try clear hcz33_3
        try clear hcz33_4
        try clear hcz33_5
        try clear hcz33_6
        try clear hcz33_7
        try clear hcz33_8
        try clear hcz33_9
        try clear hcz36_0
        try clear hcz36_1
        try clear hcz36_2
        try clear hcz36_3
        try clear hcz36_4
        try clear hcz36_5
        try clear hcz36_6
        try clear hcz36_7
        try clear hcz36_8
        try clear hcz36_9
        try clear hcz37_0
        try clear hcz37_1
        try clear hcz37_2
        try clear hcz37_3
        try clear hcz37_4
        try clear hcz37_5
        try clear hcz37_6
        try clear hcz37_7
        try clear hcz37_8
        try clear hcz37_9
        try clear hcz39_0
        try clear hcz39_1
        try clear hcz39_2
        try clear hcz39_3
        try clear hcz39_4
        try clear hcz39_5
        try clear hcz39_6
        try clear hcz39_7
        try clear hcz39_8
        try clear hcz39_9
        try clear hcz5_0
        try clear hcz5_1
        try clear hcz5_2
        try clear hcz5_3
        try clear hcz5_4
        try clear hcz5_5
        try clear hcz5_6
        try clear hcz5_7
        try clear hcz5_8
        try clear hcz5_9
        try clear hcz7_0
        try clear hcz7_1
        try clear hcz7_2
        try clear hcz7_3
        try clear hcz7_4
        try clear hcz7_5
        try clear hcz7_6
        try clear hcz7_7
        try clear hcz7_8
        try clear hcz7_9
        try clear hcz9_0
        try clear hcz9_1
        try clear hcz9_2
        try clear hcz9_3
        try clear hcz9_4
        try clear hcz9_5
        try clear hcz9_6
        try clear hcz9_7
        try clear hcz9_8
        try clear hcz9_9
        try clear Qd
        try clear Qe
        try clear Qf
        try clear Qg
        try clear Qh
        try clear Qi
        try clear Qj
        try clear Qk
        try clear Qm
        try clear Qn
        try clear Qy
        try clear Qz
        try clear X0
        try clear X1
        try clear X2
        try clear X3
        try clear X4
        try clear X5
        try clear X6
        try clear X7
        try clear Xi
        try clear Xj
        try clear Xk
        try clear Xm
        try clear Xn
        try clear Xo
        try clear Xp
        try clear Xq
        try clear Xr
        try clear Xs
        try clear Y3
        try clear Y4
        try clear Y5
        try clear Y6
        try clear Y7
        try clear Y8
        try clear Y9
        try clear Ya
        try clear Yb
        try clear Yc
        try clear Yo
        try clear Yp
        try clear Yq
        try clear Yr
        try clear Ys
        try clear Yt
        try clear Yu
        try clear Yv
        try clear Yw
        try clear Yx
        try clear hfz24_0
        try clear hfz24_1
        try clear hfz24_2
        try clear hfz24_3
        try clear hfz24_4
        try clear hfz24_5
        try clear hfz24_6
        try clear hfz24_7
        try clear hfz24_8
        try clear hfz24_9
        try clear hfz26_0
        try clear hfz26_1
        try clear hfz26_2
        try clear hfz26_3
        try clear hfz26_4
        try clear hfz26_5
        try clear hfz26_6
        try clear hfz26_7
        try clear hfz26_8
        try clear hfz26_9
        try clear hfz27_0
        try clear hfz27_1
        try clear hfz27_2
        try clear hfz27_3
        try clear hfz27_4
        try clear hfz27_5
        try clear hfz27_6
        try clear hfz27_7
        try clear hfz27_8
        try clear hfz27_9
        try clear hfz29_0
        try clear hfz29_1
        try clear hfz29_2
        try clear hfz29_3
        try clear hfz29_4
        try clear hfz29_5
        try clear hfz29_6
        try clear hfz29_7
        try clear hfz29_8
        try clear hfz29_9
        try clear hfz30_0
        try clear hfz30_1
        try clear hfz30_2
        try clear hfz30_3
        try clear hfz30_4
        try clear hfz30_5
        try clear hfz30_6
        try clear hfz30_7
        try clear hfz30_8
        try clear hfz30_9
        try clear hfz33_0
        try clear hfz33_1
        try clear hfz33_2
        try clear hfz33_3
        try clear hfz33_4
        try clear hfz33_5
        try clear hfz33_6
        try clear hfz33_7
        try clear hfz33_8
        try clear hfz33_9
        try clear hfz36_0
        try clear hfz36_1
        try clear hfz36_2
        try clear hfz36_3
        try clear hfz36_4
        try clear hfz36_5
        try clear hfz36_6
        try clear hfz36_7
        try clear hfz36_8
        try clear hfz36_9
        try clear hfz37_0
        try clear hfz37_1
        try clear hfz37_2
        try clear hfz37_3
        try clear hfz37_4
        try clear hfz37_5
        try clear hfz37_6
        try clear hfz37_7
        try clear hfz37_8
        try clear hfz37_9
        try clear hfz39_0
        try clear hfz39_1
        try clear hfz39_2
        try clear hfz39_3
        try clear hfz39_4
        try clear hfz39_5
        try clear hfz39_6
        try clear hfz39_7
        try clear hfz39_8
        try clear hfz39_9
        try clear hfz5_0
        try clear hfz5_1
        try clear hfz5_2
        try clear hfz5_3
        try clear hfz5_4
        try clear hfz5_5
        try clear hfz5_6
        try clear hfz5_7
        try clear hfz5_8
        try clear hfz5_9
        try clear hfz7_0
        try clear hfz7_1
        try clear hfz7_2
        try clear hfz7_3
        try clear hfz7_4
        try clear hfz7_5
        try clear hfz7_6
        try clear hfz7_7
        try clear hfz7_8
        try clear hfz7_9
        try clear hfz9_0
        try clear hfz9_1
        try clear hfz9_2
        try clear hfz9_3
        try clear hfz9_4
        try clear hfz9_5
        try clear hfz9_6
        try clear hfz9_7
        try clear hfz9_8
        try clear hfz9_9
        try clear p2
        obtain ⟨kq, Q2, rfl, HA, HJ37, Q0, HB⟩ := hcut
        cases kq with
        | zero => exact absurd HA.out (by simp [wayfinderref05_May.j1])
        | succ kj37 =>
         have H := HA.out
         clear HA
         simp only [wayfinderref05_May.j1] at H
         by_cases c41 : Q2 = true
         ·subst c41
          have H1 : (if a0_2 ≥ 1 then (some (decide (a0_3 ≥ 1))) else (some false)) = some r := by rw [if_pos rfl] at H; exact H
          clear H
          have H := H1
          clear H1
          by_cases c42 : a0_2 ≥ 1
          ·rw [if_pos c42] at H
           have c42b0 : decide (1 ≤ a0_2) = true := decide_eq_true c42
           clear c42
           obtain rfl := Option.some.inj H
           obtain ⟨_, _, _, _, _, _, _, _, _, _⟩ := qqz Q0.out
           obtain ⟨_, _, _, _, _, _, _, _, _, _⟩ := qqx Q0.out
           go_wp2
           go_ret
           exact ⟨by first | rfl | (simp [qqk, qqj] <;> rfl) | (simp [*, qqk, qqj] <;> rfl), by repeat (first | (with_reducible first | exact HB.out | apply qqc | apply qqa | apply qqb | refine qqg ?_ GE181.out) | exact HB.out)⟩
          ·rw [if_neg c42] at H
           have c42b0 : decide (1 ≤ a0_2) = false := decide_eq_false c42
           clear c42
           obtain rfl := Option.some.inj H
           obtain ⟨_, _, _, _, _, _, _, _, _, _⟩ := qqz Q0.out
           obtain ⟨_, _, _, _, _, _, _, _, _, _⟩ := qqx Q0.out
           go_wp2
           go_ret
           exact ⟨by first | rfl | (simp [qqk, qqj] <;> rfl) | (simp [*, qqk, qqj] <;> rfl), by repeat (first | (with_reducible first | exact HB.out | apply qqc | apply qqa | apply qqb | refine qqg ?_ GE181.out) | exact HB.out)⟩
         ·replace c41 := Bool.eq_false_iff.mpr c41
          subst c41
          have H1 : (if a0_0 = 5 then (if a0_2 ≥ 1 then (some (a0_3 == 0)) else (some false)) else (some true)) = some r := by rw [if_neg (show ¬ (false = true) by decide)] at H; exact H
          clear H
          have H := H1
          clear H1
          by_cases c45 : a0_0 = 5
          ·rw [if_pos c45] at H
           have c45b0 : (a0_0 == 5) = true := beq_iff_eq.mpr c45
           have c45b1 : (a0_0 != 5) = false := bne_eq_false_iff_eq.mpr c45
           clear c45
           by_cases c46 : a0_2 ≥ 1
           ·rw [if_pos c46] at H
            have c46b0 : decide (1 ≤ a0_2) = true := decide_eq_true c46
            clear c46
            obtain rfl := Option.some.inj H
            obtain ⟨_, _, _, _, _, _, _, _, _, _⟩ := qqz Q0.out
            obtain ⟨_, _, _, _, _, _, _, _, _, _⟩ := qqx Q0.out
            go_wp2
            go_ret
            exact ⟨by first | rfl | (simp [qqk, qqj] <;> rfl) | (simp [*, qqk, qqj] <;> rfl), by repeat (first | (with_reducible first | exact HB.out | apply qqc | apply qqa | apply qqb | refine qqg ?_ GE181.out) | exact HB.out)⟩
           ·rw [if_neg c46] at H
            have c46b0 : decide (1 ≤ a0_2) = false := decide_eq_false c46
            clear c46
            obtain rfl := Option.some.inj H
            obtain ⟨_, _, _, _, _, _, _, _, _, _⟩ := qqz Q0.out
            obtain ⟨_, _, _, _, _, _, _, _, _, _⟩ := qqx Q0.out
            go_wp2
            go_ret
            exact ⟨by first | rfl | (simp [qqk, qqj] <;> rfl) | (simp [*, qqk, qqj] <;> rfl), by repeat (first | (with_reducible first | exact HB.out | apply qqc | apply qqa | apply qqb | refine qqg ?_ GE181.out) | exact HB.out)⟩
          ·rw [if_neg c45] at H
           have c45b0 : (a0_0 == 5) = false := beq_eq_false_iff_ne.mpr c45
           have c45b1 : (a0_0 != 5) = true := bne_iff_ne.mpr c45
           obtain rfl := Option.some.inj H
           go_wp2
           go_ret
           exact ⟨by first | rfl | (simp [qqk, qqj] <;> rfl) | (simp [*, qqk, qqj] <;> rfl), by repeat (first | (with_reducible first | exact HB.out | apply qqc | apply qqa | apply qqb | refine qqg ?_ GE181.out) | exact HB.out)⟩
end Go.Proofs.YtpaoofkahhhjaaaDoor.All
