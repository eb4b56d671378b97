/- Contracts of Go functions that this seat comes to, each with a plain function that tells its answers; conditions: those that each contract names. Written by a program of this session (wip/print) over the print words. -/
import Derived.Test.YtpaoofkahhhjaaaDoorQ3Allx0
import Derived.Test.YtpaoofkahhhjaaaDoorQ3Allx3
import Derived.Test.YtpaoofkahhhjaaaDoorQ3Allx7
import Derived.Test.YtpaoofkahhhjaaaDoorQ3Allx8
import Derived.Test.YtpaoofkahhhjaaaDoorQ3Allx13
import Derived.Test.YtpaoofkahhhjaaaDoorQ3Allx16
import Derived.Test.YtpaoofkahhhjaaaDoorQ3Allx19
namespace Go.Proofs.YtpaoofkahhhjaaaDoor.All
open Go.RowKit Go.Proofs.YtpaoofkahhhjaaaDoorW.PrintWords Go.Proofs.YtpaoofkahhhjaaaDoorW.PrintLast Go.Proofs.YtpaoofkahhhjaaaDoorW.PrintMore
attribute [local go_sem] max2_int min2_int max_two min_two max_three min_three max_four min_four
set_option linter.unusedVariables false
set_option linter.unusedSimpArgs false
attribute [local go_sem high] eqA29
def wayfinderlaw06_FrameTells.j0 : Nat → List Int → Bool → Bool → Int → Int → Int → Int → Int → Int → Int → Int → Int → Int → Option (Bool)
 | 0, _, _, _, _, _, _, _, _, _, _, _, _, _ => none
 | k + 1, x1, x5, x21, x393000, x393001, x393002, x393003, x393004, x393005, x393006, x393007, x393008, x393009 => if x21 = true then (some x5) else ((frame_Seal.f k x393000 x393001 x393002 x393003 x393004 x393005 x393006 x393007 x393008 x393009).bind fun Qa => ((wayfinderref06_Seal.f k x393000 x393001 x393002 x393003 x393004 x393005 x393006 x393007 x393008 x393009).bind fun Q9 => ((frame_Open.f k x1).bind fun Q1 => ((wayfinderref06_Open.f k x1).bind fun Q0 => (if (strOfNums Qa.1).toList = (strOfNums Q9.1).toList then (if Qa.2 = Q9.2 then (if (Q1.1 == Q0.1 && (Q1.2.1 == Q0.2.1 && (Q1.2.2.1 == Q0.2.2.1 && (Q1.2.2.2.1 == Q0.2.2.2.1 && (((Q1.2.2.2.2.1 == Q0.2.2.2.2.1 && (Q1.2.2.2.2.2.1 == Q0.2.2.2.2.2.1)) && (Q1.2.2.2.2.2.2.1 == Q0.2.2.2.2.2.2.1 && (Q1.2.2.2.2.2.2.2.1 == Q0.2.2.2.2.2.2.2.1 && ((Q1.2.2.2.2.2.2.2.2.1 == Q0.2.2.2.2.2.2.2.2.1 && (Q1.2.2.2.2.2.2.2.2.2.1 == Q0.2.2.2.2.2.2.2.2.2.1))))))))))) = true then (some (Q1.2.2.2.2.2.2.2.2.2.2 == Q0.2.2.2.2.2.2.2.2.2.2)) else (none)) else (none)) else (none))))))
def wayfinderlaw06_FrameTells.f (k : Nat) (a0_0 : Int) (a0_1 : Int) (a0_2 : Int) (a0_3 : Int) (a0_4 : Int) (a0_5 : Int) (a0_6 : Int) (a0_7 : Int) (a0_8 : Int) (a0_9 : Int) (l1 : List Int) : Option (Bool) := (wayfinderlaw06_awake.f k).bind fun Q8 => (if Q8 = true then (wayfinderlaw06_FrameTells.j0 k l1 Q8 (decide ((l1.length : Int) > 3000)) a0_0 a0_1 a0_2 a0_3 a0_4 a0_5 a0_6 a0_7 a0_8 a0_9) else (wayfinderlaw06_FrameTells.j0 k l1 Q8 true a0_0 a0_1 a0_2 a0_3 a0_4 a0_5 a0_6 a0_7 a0_8 a0_9))
theorem wayfinderlaw06_FrameTells.mono_l : ∀ k, (∀ y0 y1 y2 y3 y4 y5 y6 y7 y8 y9 y10 y11 y12, LeO (wayfinderlaw06_FrameTells.j0 k y0 y1 y2 y3 y4 y5 y6 y7 y8 y9 y10 y11 y12) (wayfinderlaw06_FrameTells.j0 (k + 1) y0 y1 y2 y3 y4 y5 y6 y7 y8 y9 y10 y11 y12))
 | 0 => fun _ _ _ _ _ _ _ _ _ _ _ _ _ r h => by simp [wayfinderlaw06_FrameTells.j0] at h
 | k + 1 => by
  have ih0 := wayfinderlaw06_FrameTells.mono_l k
  ·intro y0 y1 y2 y3 y4 y5 y6 y7 y8 y9 y10 y11 y12
   unfold wayfinderlaw06_FrameTells.j0
   repeat' first
   | (with_reducible exact ih0 _ _ _ _ _ _ _ _ _ _ _ _ _)
   | (with_reducible exact frame_Open.mono _ _)
   | (with_reducible exact frame_Seal.mono _ _ _ _ _ _ _ _ _ _ _)
   | (with_reducible exact wayfinderlaw06_awake.mono _)
   | (with_reducible exact wayfinderref06_Open.mono _ _)
   | (with_reducible exact wayfinderref06_Seal.mono _ _ _ _ _ _ _ _ _ _ _)
   | (with_reducible exact LeO.refl _)
   | (with_reducible exact LeO.none _)
   | (with_reducible refine LeO.ite ?_ ?_)
   | (with_reducible refine LeO.bind ?_ (fun _ => ?_))
   | exact ih0 _ _ _ _ _ _ _ _ _ _ _ _ _
   | exact frame_Open.mono _ _
   | exact frame_Seal.mono _ _ _ _ _ _ _ _ _ _ _
   | exact wayfinderlaw06_awake.mono _
   | exact wayfinderref06_Open.mono _ _
   | exact wayfinderref06_Seal.mono _ _ _ _ _ _ _ _ _ _ _
   | exact LeO.none _
   | refine LeO.ite ?_ ?_
   | refine LeO.bind ?_ (fun _ => ?_)
theorem wayfinderlaw06_FrameTells.mono : ∀ a0 a1 a2 a3 a4 a5 a6 a7 a8 a9 a10 k, LeO (wayfinderlaw06_FrameTells.f k a0 a1 a2 a3 a4 a5 a6 a7 a8 a9 a10) (wayfinderlaw06_FrameTells.f (k + 1) a0 a1 a2 a3 a4 a5 a6 a7 a8 a9 a10) := by
 intro a0 a1 a2 a3 a4 a5 a6 a7 a8 a9 a10 k
 have ih0 := wayfinderlaw06_FrameTells.mono_l k
 unfold wayfinderlaw06_FrameTells.f
 repeat' first
   | (with_reducible exact ih0 _ _ _ _ _ _ _ _ _ _ _ _ _)
   | (with_reducible exact frame_Open.mono _ _)
   | (with_reducible exact frame_Seal.mono _ _ _ _ _ _ _ _ _ _ _)
   | (with_reducible exact wayfinderlaw06_awake.mono _)
   | (with_reducible exact wayfinderref06_Open.mono _ _)
   | (with_reducible exact wayfinderref06_Seal.mono _ _ _ _ _ _ _ _ _ _ _)
   | (with_reducible exact LeO.refl _)
   | (with_reducible exact LeO.none _)
   | (with_reducible refine LeO.ite ?_ ?_)
   | (with_reducible refine LeO.bind ?_ (fun _ => ?_))
   | exact ih0 _ _ _ _ _ _ _ _ _ _ _ _ _
   | exact frame_Open.mono _ _
   | exact frame_Seal.mono _ _ _ _ _ _ _ _ _ _ _
   | exact wayfinderlaw06_awake.mono _
   | exact wayfinderref06_Open.mono _ _
   | exact wayfinderref06_Seal.mono _ _ _ _ _ _ _ _ _ _ _
   | exact LeO.none _
   | refine LeO.ite ?_ ?_
   | refine LeO.bind ?_ (fun _ => ?_)
set_option maxHeartbeats 8000000 in
set_option maxRecDepth 100000 in
theorem wayfinderlaw06_FrameTells.calls (k : Nat) (a0_0 : Int) (a0_1 : Int) (a0_2 : Int) (a0_3 : Int) (a0_4 : Int) (a0_5 : Int) (a0_6 : Int) (a0_7 : Int) (a0_8 : Int) (a0_9 : Int) (A1 : Option Addr) (c1 : Nat) (l1 : List Int) (r : Bool) (w : World) (hr1 : Kd.C (Kd.int .u8) w A1 l1.length l1) (hc1 : l1.length ≤ c1) (hG : Glob w) (h : wayfinderlaw06_FrameTells.f k a0_0 a0_1 a0_2 a0_3 a0_4 a0_5 a0_6 a0_7 a0_8 a0_9 l1 = some r) :
  Calls Tryd.prog 4 #[.agg #[.int .i64 a0_0, .int .i64 a0_1, .int .i64 a0_2, .int .i64 a0_3, .int .i64 a0_4, .int .i64 a0_5, .int .i64 a0_6, .int .i64 a0_7, .int .i64 a0_8, .int .i64 a0_9], .slice A1 l1.length c1] w fun e w' => e = .returned (.bool r) ∧ Below w.heap.size w w' := by
 have hu29 := Tryd.underlying29
 have HR1 := Aside0.mk hr1
 have HC1 := Aside0.mk hc1
 clear hr1 hc1
 have HB := Aside0.mk (Below.refl w.heap.size w)
 have H : ((wayfinderlaw06_awake.f k).bind fun Q8 => (if Q8 = true then (wayfinderlaw06_FrameTells.j0 k l1 Q8 (decide ((l1.length : Int) > 3000)) a0_0 a0_1 a0_2 a0_3 a0_4 a0_5 a0_6 a0_7 a0_8 a0_9) else (wayfinderlaw06_FrameTells.j0 k l1 Q8 true a0_0 a0_1 a0_2 a0_3 a0_4 a0_5 a0_6 a0_7 a0_8 a0_9))) = some r := h
 clear h
 replace H := Option.bind_eq_some_iff.mp H
 obtain ⟨Q8, A30, H⟩ := H
 replace H : (if Q8 = true then (wayfinderlaw06_FrameTells.j0 k l1 Q8 (decide ((l1.length : Int) > 3000)) a0_0 a0_1 a0_2 a0_3 a0_4 a0_5 a0_6 a0_7 a0_8 a0_9) else (wayfinderlaw06_FrameTells.j0 k l1 Q8 true a0_0 a0_1 a0_2 a0_3 a0_4 a0_5 a0_6 a0_7 a0_8 a0_9)) = some r := H
 have A3 := Aside0.mk A30
 clear A30
 have HC4 := Aside0.mk H
 clear H
 go_enter Tryd.func4, Tryd.ntmps4
 go_upto_region 2 with (first | ((with_reducible refine qqr (N := 2) rfl ?_); (try (refine gate_guard (by rfl) ?_; dsimp only)); refine qqw ?hg (N := 2) ?hd (cs := #[.int .i64 a0_0, .int .i64 a0_1, .int .i64 a0_2, .int .i64 a0_3, .int .i64 a0_4, .int .i64 a0_5, .int .i64 a0_6, .int .i64 a0_7, .int .i64 a0_8, .int .i64 a0_9]) (t := 29) ?hr ?_; (case hd => rfl); (case hg => rfl); (case hr => first | (go_simp; done) | (go_simp; rfl)); intro gb392 hg w5 hbox hb; have n0_ := bst HB hb; have n1_ := Aside0.mk (hbox); have n2_ := szl HB hg; have n3_ := szl HB hg; clear HB; have HB := n0_; have Q2 := n1_; have GW392 := n2_; have GE392 := n3_; clear n0_ n1_ n2_ n3_; clear hb hbox hg) | ((with_reducible refine qqo (f := 9) rfl ?_); refine goesL_ (some 14) rfl rfl Tryd.func9 (by kernel_rfl) rfl #[] rfl (by (try simp only [List.map_toArray, List.map_cons, List.map_nil]); first | done | rfl | (simp only [List.length_drop, List.length_take]; rfl)) ?_; (with_reducible refine (wayfinderlaw06_awake.calls k  Q8 _ ?sideG_ A3.out).mono ?_); (case sideG_ => exact hG.below rfl (by repeat (first | (with_reducible first | exact HB.out | apply qqc | apply qqa | apply qqb | refine qqg ?_ GE392.out) | exact HB.out))); rintro e w6 ⟨rfl, hb⟩; refine ⟨_, rfl, ?_⟩; have n0_ := bbl Q2 hb; have n1_ := bst HB hb; clear Q2; clear HB; have Q2 := n0_; have HB := n1_; clear n0_ n1_; (try clear hb)))
 (try simp only [Act.put, qsA, qsB, qsC])
 go_cut [21] (fun v21 wc => ∃ (kq : Nat) (x21_3 : Bool), v21 = .bool x21_3 ∧ Aside0 (wayfinderlaw06_FrameTells.j0 kq l1 Q8 x21_3 a0_0 a0_1 a0_2 a0_3 a0_4 a0_5 a0_6 a0_7 a0_8 a0_9 = some r) ∧ Aside0 (kq ≤ k) ∧ Aside0 (wc.heap[gb392]? = some (.cells #[.int .i64 a0_0, .int .i64 a0_1, .int .i64 a0_2, .int .i64 a0_3, .int .i64 a0_4, .int .i64 a0_5, .int .i64 a0_6, .int .i64 a0_7, .int .i64 a0_8, .int .i64 a0_9] 29 (0, 0))) ∧ Aside0 (Below w.heap.size w wc))
 case first =>
  have H := HC4.out
  clear HC4
  by_cases c7 : Q8 = true
  ·subst c7
   have H1 : (wayfinderlaw06_FrameTells.j0 k l1 true (decide ((l1.length : Int) > 3000)) a0_0 a0_1 a0_2 a0_3 a0_4 a0_5 a0_6 a0_7 a0_8 a0_9) = some r := by rw [if_pos rfl] at H; exact H
   clear H
   have H := H1
   clear H1
   have H' := Aside0.mk H
   clear H
   go_wp2
   go_meet
   case rel => exact ⟨_, (decide ((l1.length : Int) > 3000)), (by first | rfl | (simp; done) | (simp [*]; done)), H', ⟨by first | omega | exact Nat.le_refl _⟩, ⟨by (with_reducible repeat (first | refine qqd ?_ _ | refine qqf ?_ | refine qqe ?_ _)); exact Q2.out⟩, ⟨by repeat (first | (with_reducible first | exact HB.out | apply qqc | apply qqa | apply qqb | refine qqg ?_ GE392.out) | exact HB.out)⟩⟩
  ·replace c7 := Bool.eq_false_iff.mpr c7
   subst c7
   have H1 : (wayfinderlaw06_FrameTells.j0 k l1 false true a0_0 a0_1 a0_2 a0_3 a0_4 a0_5 a0_6 a0_7 a0_8 a0_9) = some r := by rw [if_neg (show ¬ (false = true) by decide)] at H; exact H
   clear H
   have H := H1
   clear H1
   have H' := Aside0.mk H
   clear H
   go_wp2
   go_meet
   case rel => exact ⟨_, (true), (by first | rfl | (simp; done) | (simp [*]; done)), H', ⟨by first | omega | exact Nat.le_refl _⟩, ⟨by (with_reducible repeat (first | refine qqd ?_ _ | refine qqf ?_ | refine qqe ?_ _)); exact Q2.out⟩, ⟨by repeat (first | (with_reducible first | exact HB.out | apply qqc | apply qqa | apply qqb | refine qqg ?_ GE392.out) | exact HB.out)⟩⟩
 case rest =>
  clear HC4
  try clear c1
  try clear p2
  try clear c4
  try clear c7
  obtain ⟨kq, x21_3, rfl, HA, HJ3, Q2, HB⟩ := hcut
  cases kq with
  | zero => exact absurd HA.out (by simp [wayfinderlaw06_FrameTells.j0])
  | succ kj3 =>
   have H := HA.out
   clear HA
   simp only [wayfinderlaw06_FrameTells.j0] at H
   by_cases c8 : x21_3 = true
   ·subst c8
    have H1 : (some Q8) = some r := by rw [if_pos rfl] at H; exact H
    clear H
    have H := H1
    clear H1
    obtain rfl := Option.some.inj H
    go_wp2
    go_ret
    exact ⟨by first | rfl | (simp [qqk, qqj] <;> rfl) | (simp [*, qqk, qqj] <;> rfl), by repeat (first | (with_reducible first | exact HB.out | apply qqc | apply qqa | apply qqb | refine qqg ?_ GE392.out) | exact HB.out)⟩
   ·replace c8 := Bool.eq_false_iff.mpr c8
    subst c8
    have H1 : ((frame_Seal.f kj3 a0_0 a0_1 a0_2 a0_3 a0_4 a0_5 a0_6 a0_7 a0_8 a0_9).bind fun Qa => ((wayfinderref06_Seal.f kj3 a0_0 a0_1 a0_2 a0_3 a0_4 a0_5 a0_6 a0_7 a0_8 a0_9).bind fun Q9 => ((frame_Open.f kj3 l1).bind fun Q1 => ((wayfinderref06_Open.f kj3 l1).bind fun Q0 => (if (strOfNums Qa.1).toList = (strOfNums Q9.1).toList then (if Qa.2 = Q9.2 then (if (Q1.1 == Q0.1 && (Q1.2.1 == Q0.2.1 && (Q1.2.2.1 == Q0.2.2.1 && (Q1.2.2.2.1 == Q0.2.2.2.1 && (((Q1.2.2.2.2.1 == Q0.2.2.2.2.1 && (Q1.2.2.2.2.2.1 == Q0.2.2.2.2.2.1)) && (Q1.2.2.2.2.2.2.1 == Q0.2.2.2.2.2.2.1 && (Q1.2.2.2.2.2.2.2.1 == Q0.2.2.2.2.2.2.2.1 && ((Q1.2.2.2.2.2.2.2.2.1 == Q0.2.2.2.2.2.2.2.2.1 && (Q1.2.2.2.2.2.2.2.2.2.1 == Q0.2.2.2.2.2.2.2.2.2.1))))))))))) = true then (some (Q1.2.2.2.2.2.2.2.2.2.2 == Q0.2.2.2.2.2.2.2.2.2.2)) else (none)) else (none)) else (none)))))) = some r := by rw [if_neg (show ¬ (false = true) by decide)] at H; exact H
    clear H
    have H := H1
    clear H1
    replace H := Option.bind_eq_some_iff.mp H
    obtain ⟨⟨t394, t397⟩, A90, H⟩ := H
    replace H : ((wayfinderref06_Seal.f kj3 a0_0 a0_1 a0_2 a0_3 a0_4 a0_5 a0_6 a0_7 a0_8 a0_9).bind fun Q9 => ((frame_Open.f kj3 l1).bind fun Q1 => ((wayfinderref06_Open.f kj3 l1).bind fun Q0 => (if (strOfNums t394).toList = (strOfNums Q9.1).toList then (if t397 = Q9.2 then (if (Q1.1 == Q0.1 && (Q1.2.1 == Q0.2.1 && (Q1.2.2.1 == Q0.2.2.1 && (Q1.2.2.2.1 == Q0.2.2.2.1 && (((Q1.2.2.2.2.1 == Q0.2.2.2.2.1 && (Q1.2.2.2.2.2.1 == Q0.2.2.2.2.2.1)) && (Q1.2.2.2.2.2.2.1 == Q0.2.2.2.2.2.2.1 && (Q1.2.2.2.2.2.2.2.1 == Q0.2.2.2.2.2.2.2.1 && ((Q1.2.2.2.2.2.2.2.2.1 == Q0.2.2.2.2.2.2.2.2.1 && (Q1.2.2.2.2.2.2.2.2.2.1 == Q0.2.2.2.2.2.2.2.2.2.1))))))))))) = true then (some (Q1.2.2.2.2.2.2.2.2.2.2 == Q0.2.2.2.2.2.2.2.2.2.2)) else (none)) else (none)) else (none))))) = some r := H
    have A9 := Aside0.mk A90
    clear A90
    replace H := Option.bind_eq_some_iff.mp H
    obtain ⟨⟨t398, t401⟩, A100, H⟩ := H
    replace H : ((frame_Open.f kj3 l1).bind fun Q1 => ((wayfinderref06_Open.f kj3 l1).bind fun Q0 => (if (strOfNums t394).toList = (strOfNums t398).toList then (if t397 = t401 then (if (Q1.1 == Q0.1 && (Q1.2.1 == Q0.2.1 && (Q1.2.2.1 == Q0.2.2.1 && (Q1.2.2.2.1 == Q0.2.2.2.1 && (((Q1.2.2.2.2.1 == Q0.2.2.2.2.1 && (Q1.2.2.2.2.2.1 == Q0.2.2.2.2.2.1)) && (Q1.2.2.2.2.2.2.1 == Q0.2.2.2.2.2.2.1 && (Q1.2.2.2.2.2.2.2.1 == Q0.2.2.2.2.2.2.2.1 && ((Q1.2.2.2.2.2.2.2.2.1 == Q0.2.2.2.2.2.2.2.2.1 && (Q1.2.2.2.2.2.2.2.2.2.1 == Q0.2.2.2.2.2.2.2.2.2.1))))))))))) = true then (some (Q1.2.2.2.2.2.2.2.2.2.2 == Q0.2.2.2.2.2.2.2.2.2.2)) else (none)) else (none)) else (none)))) = some r := H
    have A10 := Aside0.mk A100
    clear A100
    replace H := Option.bind_eq_some_iff.mp H
    obtain ⟨⟨t402, t403, t404, t405, t406, t407, t408, t409, t410, t411, t412⟩, A110, H⟩ := H
    replace H : ((wayfinderref06_Open.f kj3 l1).bind fun Q0 => (if (strOfNums t394).toList = (strOfNums t398).toList then (if t397 = t401 then (if (t402 == Q0.1 && (t403 == Q0.2.1 && (t404 == Q0.2.2.1 && (t405 == Q0.2.2.2.1 && (((t406 == Q0.2.2.2.2.1 && (t407 == Q0.2.2.2.2.2.1)) && (t408 == Q0.2.2.2.2.2.2.1 && (t409 == Q0.2.2.2.2.2.2.2.1 && ((t410 == Q0.2.2.2.2.2.2.2.2.1 && (t411 == Q0.2.2.2.2.2.2.2.2.2.1))))))))))) = true then (some (t412 == Q0.2.2.2.2.2.2.2.2.2.2)) else (none)) else (none)) else (none))) = some r := H
    have A11 := Aside0.mk A110
    clear A110
    replace H := Option.bind_eq_some_iff.mp H
    obtain ⟨⟨t414, t415, t416, t417, t418, t419, t420, t421, t422, t423, t424⟩, A120, H⟩ := H
    replace H : (if (strOfNums t394).toList = (strOfNums t398).toList then (if t397 = t401 then (if (t402 == t414 && (t403 == t415 && (t404 == t416 && (t405 == t417 && (((t406 == t418 && (t407 == t419)) && (t408 == t420 && (t409 == t421 && ((t410 == t422 && (t411 == t423))))))))))) = true then (some (t412 == t424)) else (none)) else (none)) else (none)) = some r := H
    have A12 := Aside0.mk A120
    clear A120
    by_cases c13 : (strOfNums t394).toList = (strOfNums t398).toList
    ·rw [if_pos c13] at H
     have c13b0 : ((strOfNums t394).toList == (strOfNums t398).toList) = true := beq_iff_eq.mpr c13
     have c13b1 : ((strOfNums t394).toList != (strOfNums t398).toList) = false := bne_eq_false_iff_eq.mpr c13
     clear c13
     by_cases c14 : t397 = t401
     ·rw [if_pos c14] at H
      have c14b0 : (t397 == t401) = true := beq_iff_eq.mpr c14
      have c14b1 : (t397 != t401) = false := bne_eq_false_iff_eq.mpr c14
      clear c14
      by_cases c15 : (t402 == t414 && (t403 == t415 && (t404 == t416 && (t405 == t417 && (((t406 == t418 && (t407 == t419)) && (t408 == t420 && (t409 == t421 && ((t410 == t422 && (t411 == t423))))))))))) = true
      ·rw [if_pos c15] at H
       have c15b0 : (t402 == t414 && (t403 == t415 && (t404 == t416 && (t405 == t417 && (((t406 == t418 && (t407 == t419)) && (t408 == t420 && (t409 == t421 && ((t410 == t422 && (t411 == t423))))))))))) = true := c15
       (try (have c15b1 : decide (t402 = t414 && (t403 == t415 && (t404 == t416 && (t405 == t417 && (((t406 == t418 && (t407 == t419)) && (t408 == t420 && (t409 == t421 && ((t410 == t422 && (t411 == t423))))))))))) = true := by simpa using c15))
       (try (have c15b2 : (t402 == t414 && (t403 == t415 && (t404 == t416 && (t405 == t417 && (((t406 == t418 && (t407 == t419)) && (t408 == t420 && (t409 == t421 && ((t410 == t422 && (t411 == t423))))))))))) = true := by simpa using c15))
       clear c15
       obtain rfl := Option.some.inj H
       obtain ⟨_, _, _, _, _, _, _, _, _, _⟩ := qqz Q2.out
       obtain ⟨_, _, _, _, _, _, _, _, _, _⟩ := qqx Q2.out
       go_wp2_with (first | ((with_reducible refine qqo (f := 10) rfl ?_); refine goesL_ (some 25) rfl rfl Tryd.func10 (by kernel_rfl) rfl #[.agg #[.int .i64 a0_0, .int .i64 a0_1, .int .i64 a0_2, .int .i64 a0_3, .int .i64 a0_4, .int .i64 a0_5, .int .i64 a0_6, .int .i64 a0_7, .int .i64 a0_8, .int .i64 a0_9]] rfl (by (try simp only [List.map_toArray, List.map_cons, List.map_nil]); first | done | rfl | (simp only [List.length_drop, List.length_take]; rfl)) ?_; (with_reducible refine (frame_Seal.calls kj3 a0_0 a0_1 a0_2 a0_3 a0_4 a0_5 a0_6 a0_7 a0_8 a0_9 t394 t397 _ ?sideG_ A9.out).mono ?_); (case sideG_ => exact hG.below rfl (by repeat (first | (with_reducible first | exact HB.out | apply qqc | apply qqa | apply qqb | refine qqg ?_ GE392.out) | exact HB.out))); rintro e w17 ⟨v395, rfl, ho0, hb⟩; refine ⟨_, rfl, ?_⟩; have Q5 := Aside0.mk (Kd.R_lower ho0 (qqt (by repeat (first | (with_reducible first | exact HB.out | apply qqc | apply qqa | apply qqb | refine qqg ?_ GE392.out) | exact HB.out)))); replace Q2 := bbl Q2 hb; replace HB := bst HB hb; (try clear hb); (try clear hk); (try clear ho0); obtain ⟨_, _, _, _, _, _, _, _, _, _⟩ := qqz Q2.out; obtain ⟨_, _, _, _, _, _, _, _, _, _⟩ := qqx Q2.out) | ((with_reducible refine qqo (f := 11) rfl ?_); refine goesL_ (some 30) rfl rfl Tryd.func11 (by kernel_rfl) rfl #[.agg #[.int .i64 a0_0, .int .i64 a0_1, .int .i64 a0_2, .int .i64 a0_3, .int .i64 a0_4, .int .i64 a0_5, .int .i64 a0_6, .int .i64 a0_7, .int .i64 a0_8, .int .i64 a0_9]] rfl (by (try simp only [List.map_toArray, List.map_cons, List.map_nil]); first | done | rfl | (simp only [List.length_drop, List.length_take]; rfl)) ?_; (with_reducible refine (wayfinderref06_Seal.calls kj3 a0_0 a0_1 a0_2 a0_3 a0_4 a0_5 a0_6 a0_7 a0_8 a0_9 t398 t401 _ A10.out).mono ?_); rintro e w19 ⟨v399, rfl, ho0, hb⟩; refine ⟨_, rfl, ?_⟩; have n0_ := Aside0.mk (Kd.R_elder' (by (with_reducible repeat (first | apply Kd.R_alloc | apply Kd.R_drewN | apply Kd.R_drew)); exact Q5.out) (Kd.R_base ho0) hb); have n1_ := Aside0.mk (Kd.R_lower (Kd.R_new' ho0 (Kd.R_lt (by (with_reducible repeat (first | apply Kd.R_alloc | apply Kd.R_drewN | apply Kd.R_drew)); exact Q5.out))) (qqt (by repeat (first | (with_reducible first | exact HB.out | apply qqc | apply qqa | apply qqb | refine qqg ?_ GE392.out) | exact HB.out)))); have n2_ := bbl Q2 hb; have n3_ := bst HB hb; clear Q5; clear Q2; clear HB; have Q5 := n0_; have Q7 := n1_; have Q2 := n2_; have HB := n3_; clear n0_ n1_ n2_ n3_; (try clear hb); (try clear hk); (try clear ho0)) | ((with_reducible refine qqo (f := 12) rfl ?_); refine goesL_ (some 35) rfl rfl Tryd.func12 (by kernel_rfl) rfl #[.slice A1 l1.length c1] rfl (by (try simp only [List.map_toArray, List.map_cons, List.map_nil]); first | done | rfl | (simp only [List.length_drop, List.length_take]; rfl)) ?_; (with_reducible refine (frame_Open.calls kj3 _ _ l1 t402 t403 t404 t405 t406 t407 t408 t409 t410 t411 t412 _ ?side1 ?side2 ?sideG_ A11.out).mono ?_); (case sideG_ => exact hG.below rfl (by repeat (first | (with_reducible first | exact HB.out | apply qqc | apply qqa | apply qqb | refine qqg ?_ GE392.out) | exact HB.out))); (case side1 => repeat (first | exact (Kd.C_below HR1.out HB.out) | (with_reducible refine Kd.C_alloc ?_ _) | (with_reducible refine Kd.C_drewN ?_ _) | (with_reducible refine Kd.C_drew ?_))); (case side2 => exact HC1.out); rintro e w20 ⟨rfl, hb⟩; refine ⟨_, rfl, ?_⟩; replace Q5 := Aside0.mk (Kd.R_below (by (with_reducible repeat (first | apply Kd.R_alloc | apply Kd.R_drewN | apply Kd.R_drew)); exact Q5.out) hb); replace Q7 := Aside0.mk (Kd.R_below (by (with_reducible repeat (first | apply Kd.R_alloc | apply Kd.R_drewN | apply Kd.R_drew)); exact Q7.out) hb); replace Q2 := bbl Q2 hb; replace HB := bst HB hb; (try clear hb); (try clear hk)) | ((with_reducible refine qqr (N := 10) rfl ?_); (try (refine gate_guard (by rfl) ?_; dsimp only)); refine qqw ?hg (N := 10) ?hd (cs := #[.int .i64 0, .int .i64 0, .int .i64 0, .int .i64 0, .int .i64 0, .int .i64 0, .int .i64 0, .int .i64 0, .int .i64 0, .int .i64 0]) (t := 29) ?hr ?_; (case hd => rfl); (case hg => rfl); (case hr => first | (go_simp; done) | (go_simp; rfl)); intro Q4 hg w21 hbox hb; have n0_ := Aside0.mk (Kd.R_below (by (with_reducible repeat (first | apply Kd.R_alloc | apply Kd.R_drewN | apply Kd.R_drew)); exact Q5.out) hb); have n1_ := Aside0.mk (Kd.R_below (by (with_reducible repeat (first | apply Kd.R_alloc | apply Kd.R_drewN | apply Kd.R_drew)); exact Q7.out) hb); have n2_ := bbl Q2 hb; have n3_ := bst HB hb; have n4_ := Aside0.mk (hbox); have n5_ := szl HB hg; have n6_ := szl HB hg; have n7_ := nel Q2 hg; have n8_ := ner Q2 hg; clear Q5; clear Q7; clear Q2; clear HB; have Q5 := n0_; have Q7 := n1_; have Q2 := n2_; have HB := n3_; have Q6 := n4_; have GW413 := n5_; have GE413 := n6_; have Q3 := n7_; have Qb := n8_; clear n0_ n1_ n2_ n3_ n4_ n5_ n6_ n7_ n8_; clear hb hbox hg; have hnb22 := Qb.out; have hnc22 := Q3.out; obtain ⟨_, _, _, _, _, _, _, _, _, _⟩ := qqz Q6.out; obtain ⟨_, _, _, _, _, _, _, _, _, _⟩ := qqx Q6.out) | ((with_reducible refine qqo (f := 13) rfl ?_); refine goesL_ (some 40) rfl rfl Tryd.func13 (by kernel_rfl) rfl #[.slice A1 l1.length c1] rfl (by (try simp only [List.map_toArray, List.map_cons, List.map_nil]); first | done | rfl | (simp only [List.length_drop, List.length_take]; rfl)) ?_; (with_reducible refine (wayfinderref06_Open.calls kj3 _ _ l1 t414 t415 t416 t417 t418 t419 t420 t421 t422 t423 t424 _ ?side1 ?side2 A12.out).mono ?_); (case side1 => exact Kd.C_below HR1.out (by repeat (first | (with_reducible first | exact HB.out | apply qqc | apply qqa | apply qqb | refine qqg ?_ GE392.out | refine qqg ?_ GE413.out) | exact HB.out))); (case side2 => exact HC1.out); rintro e w24 ⟨rfl, hb⟩; refine ⟨_, rfl, ?_⟩; replace Q5 := Aside0.mk (Kd.R_below (by (with_reducible repeat (first | apply Kd.R_alloc | apply Kd.R_drewN | apply Kd.R_drew)); exact (Kd.R_mono (Kd.R_far (p := ⟨Q4, 9, none⟩) (Kd.R_far (p := ⟨Q4, 8, none⟩) (Kd.R_far (p := ⟨Q4, 7, none⟩) (Kd.R_far (p := ⟨Q4, 6, none⟩) (Kd.R_far (p := ⟨Q4, 5, none⟩) (Kd.R_far (p := ⟨Q4, 4, none⟩) (Kd.R_far (p := ⟨Q4, 3, none⟩) (Kd.R_far (p := ⟨Q4, 2, none⟩) (Kd.R_far (p := ⟨Q4, 1, none⟩) (Kd.R_far (p := ⟨Q4, 0, none⟩) (Kd.R_types Q5.out Q6.out (by decide)) (fun _ hk => hk.2) (.int .i64 t402)) (fun _ hk => hk.2) (.int .i64 t403)) (fun _ hk => hk.2) (.int .i64 t404)) (fun _ hk => hk.2) (.int .i64 t405)) (fun _ hk => hk.2) (.int .i64 t406)) (fun _ hk => hk.2) (.int .i64 t407)) (fun _ hk => hk.2) (.int .i64 t408)) (fun _ hk => hk.2) (.int .i64 t409)) (fun _ hk => hk.2) (.int .i64 t410)) (fun _ hk => hk.2) (.int .i64 t411)) (fun _ h_ => h_.1))) hb); replace Q7 := Aside0.mk (Kd.R_below (by (with_reducible repeat (first | apply Kd.R_alloc | apply Kd.R_drewN | apply Kd.R_drew)); exact (Kd.R_mono (Kd.R_far (p := ⟨Q4, 9, none⟩) (Kd.R_far (p := ⟨Q4, 8, none⟩) (Kd.R_far (p := ⟨Q4, 7, none⟩) (Kd.R_far (p := ⟨Q4, 6, none⟩) (Kd.R_far (p := ⟨Q4, 5, none⟩) (Kd.R_far (p := ⟨Q4, 4, none⟩) (Kd.R_far (p := ⟨Q4, 3, none⟩) (Kd.R_far (p := ⟨Q4, 2, none⟩) (Kd.R_far (p := ⟨Q4, 1, none⟩) (Kd.R_far (p := ⟨Q4, 0, none⟩) (Kd.R_types Q7.out Q6.out (by decide)) (fun _ hk => hk.2) (.int .i64 t402)) (fun _ hk => hk.2) (.int .i64 t403)) (fun _ hk => hk.2) (.int .i64 t404)) (fun _ hk => hk.2) (.int .i64 t405)) (fun _ hk => hk.2) (.int .i64 t406)) (fun _ hk => hk.2) (.int .i64 t407)) (fun _ hk => hk.2) (.int .i64 t408)) (fun _ hk => hk.2) (.int .i64 t409)) (fun _ hk => hk.2) (.int .i64 t410)) (fun _ hk => hk.2) (.int .i64 t411)) (fun _ h_ => h_.1))) hb); replace Q2 := Aside0.mk (blk_below (g := gb392) (o := .cells #[.int .i64 a0_0, .int .i64 a0_1, .int .i64 a0_2, .int .i64 a0_3, .int .i64 a0_4, .int .i64 a0_5, .int .i64 a0_6, .int .i64 a0_7, .int .i64 a0_8, .int .i64 a0_9] 29 (0, 0)) (by (with_reducible repeat (first | refine qqd ?_ _ | refine qqf ?_ | refine qqe ?_ _)); refine qql ?_ Q3.out _; (with_reducible repeat (first | refine qqd ?_ _ | refine qqf ?_ | refine qqe ?_ _)); refine qql ?_ Q3.out _; (with_reducible repeat (first | refine qqd ?_ _ | refine qqf ?_ | refine qqe ?_ _)); refine qql ?_ Q3.out _; (with_reducible repeat (first | refine qqd ?_ _ | refine qqf ?_ | refine qqe ?_ _)); refine qql ?_ Q3.out _; (with_reducible repeat (first | refine qqd ?_ _ | refine qqf ?_ | refine qqe ?_ _)); refine qql ?_ Q3.out _; (with_reducible repeat (first | refine qqd ?_ _ | refine qqf ?_ | refine qqe ?_ _)); refine qql ?_ Q3.out _; (with_reducible repeat (first | refine qqd ?_ _ | refine qqf ?_ | refine qqe ?_ _)); refine qql ?_ Q3.out _; (with_reducible repeat (first | refine qqd ?_ _ | refine qqf ?_ | refine qqe ?_ _)); refine qql ?_ Q3.out _; (with_reducible repeat (first | refine qqd ?_ _ | refine qqf ?_ | refine qqe ?_ _)); refine qql ?_ Q3.out _; (with_reducible repeat (first | refine qqd ?_ _ | refine qqf ?_ | refine qqe ?_ _)); refine qql ?_ Q3.out _; (with_reducible repeat (first | refine qqd ?_ _ | refine qqf ?_ | refine qqe ?_ _)); exact Q2.out) hb); replace Q6 := Aside0.mk (blk_below (g := Q4) (o := .cells #[.int .i64 t402, .int .i64 t403, .int .i64 t404, .int .i64 t405, .int .i64 t406, .int .i64 t407, .int .i64 t408, .int .i64 t409, .int .i64 t410, .int .i64 t411] 29 (0, 0)) (by (with_reducible repeat (first | refine qqd ?_ _ | refine qqf ?_ | refine qqe ?_ _)); exact bput10 Q6.out) hb); replace HB := bst HB hb; (try clear hb); (try clear hk)) | ((with_reducible refine qqr (N := 12) rfl ?_); (try (refine gate_guard (by rfl) ?_; dsimp only)); refine qqw ?hg (N := 12) ?hd (cs := #[.int .i64 0, .int .i64 0, .int .i64 0, .int .i64 0, .int .i64 0, .int .i64 0, .int .i64 0, .int .i64 0, .int .i64 0, .int .i64 0]) (t := 29) ?hr ?_; (case hd => rfl); (case hg => rfl); (case hr => first | (go_simp; done) | (go_simp; rfl)); intro gb425 hg w25 hbox hb; have hge_ := Nat.le_of_eq hg.symm; have hcvs0_ := fun (u0_ u1_ u2_ u3_ u4_ u5_ u6_ u7_ u8_ u9_ : Value) => own_string (P := Tryd.prog) Tryd.underlying31 Tryd.underlying5 Tryd.underlying9 (Kd.own_of_R (Kd.R_below (by (with_reducible repeat (first | apply Kd.R_alloc | apply Kd.R_drewN | apply Kd.R_drew)); exact Q5.out) (qqg (j := 9) (v := u9_) (qqg (j := 8) (v := u8_) (qqg (j := 7) (v := u7_) (qqg (j := 6) (v := u6_) (qqg (j := 5) (v := u5_) (qqg (j := 4) (v := u4_) (qqg (j := 3) (v := u3_) (qqg (j := 2) (v := u2_) (qqg (j := 1) (v := u1_) (qqg (j := 0) (v := u0_) hb hge_) hge_) hge_) hge_) hge_) hge_) hge_) hge_) hge_) hge_))); have hcvs1_ := fun (u0_ u1_ u2_ u3_ u4_ u5_ u6_ u7_ u8_ u9_ : Value) (n_ : Nat) => own_string (P := Tryd.prog) Tryd.underlying31 Tryd.underlying5 Tryd.underlying9 (Kd.own_of_R (Kd.R_drewN (Kd.R_below (by (with_reducible repeat (first | apply Kd.R_alloc | apply Kd.R_drewN | apply Kd.R_drew)); exact Q5.out) (qqg (j := 9) (v := u9_) (qqg (j := 8) (v := u8_) (qqg (j := 7) (v := u7_) (qqg (j := 6) (v := u6_) (qqg (j := 5) (v := u5_) (qqg (j := 4) (v := u4_) (qqg (j := 3) (v := u3_) (qqg (j := 2) (v := u2_) (qqg (j := 1) (v := u1_) (qqg (j := 0) (v := u0_) hb hge_) hge_) hge_) hge_) hge_) hge_) hge_) hge_) hge_) hge_)) n_)); have hcvs2_ := fun (u0_ u1_ u2_ u3_ u4_ u5_ u6_ u7_ u8_ u9_ : Value) => own_string (P := Tryd.prog) Tryd.underlying31 Tryd.underlying5 Tryd.underlying9 (Kd.own_of_R (Kd.R_below (by (with_reducible repeat (first | apply Kd.R_alloc | apply Kd.R_drewN | apply Kd.R_drew)); exact Q7.out) (qqg (j := 9) (v := u9_) (qqg (j := 8) (v := u8_) (qqg (j := 7) (v := u7_) (qqg (j := 6) (v := u6_) (qqg (j := 5) (v := u5_) (qqg (j := 4) (v := u4_) (qqg (j := 3) (v := u3_) (qqg (j := 2) (v := u2_) (qqg (j := 1) (v := u1_) (qqg (j := 0) (v := u0_) hb hge_) hge_) hge_) hge_) hge_) hge_) hge_) hge_) hge_) hge_))); have hcvs3_ := fun (u0_ u1_ u2_ u3_ u4_ u5_ u6_ u7_ u8_ u9_ : Value) (n_ : Nat) => own_string (P := Tryd.prog) Tryd.underlying31 Tryd.underlying5 Tryd.underlying9 (Kd.own_of_R (Kd.R_drewN (Kd.R_below (by (with_reducible repeat (first | apply Kd.R_alloc | apply Kd.R_drewN | apply Kd.R_drew)); exact Q7.out) (qqg (j := 9) (v := u9_) (qqg (j := 8) (v := u8_) (qqg (j := 7) (v := u7_) (qqg (j := 6) (v := u6_) (qqg (j := 5) (v := u5_) (qqg (j := 4) (v := u4_) (qqg (j := 3) (v := u3_) (qqg (j := 2) (v := u2_) (qqg (j := 1) (v := u1_) (qqg (j := 0) (v := u0_) hb hge_) hge_) hge_) hge_) hge_) hge_) hge_) hge_) hge_) hge_)) n_)); have n0_ := Aside0.mk (Kd.R_below (by (with_reducible repeat (first | apply Kd.R_alloc | apply Kd.R_drewN | apply Kd.R_drew)); exact Q5.out) hb); have n1_ := Aside0.mk (Kd.R_below (by (with_reducible repeat (first | apply Kd.R_alloc | apply Kd.R_drewN | apply Kd.R_drew)); exact Q7.out) hb); have n2_ := bbl Q2 hb; have n3_ := bbl Q6 hb; have n4_ := bst HB hb; have n5_ := Aside0.mk (hbox); have n6_ := szl HB hg; have n7_ := szl HB hg; have n8_ := nel Q2 hg; have n9_ := ner Q2 hg; have n10_ := nel Q6 hg; have n11_ := ner Q6 hg; clear Q5; clear Q7; clear Q2; clear Q6; clear HB; have Q5 := n0_; have Q7 := n1_; have Q2 := n2_; have Q6 := n3_; have HB := n4_; have BK425 := n5_; have GW425 := n6_; have GE425 := n7_; have Qc := n8_; have Qd := n9_; have Qe := n10_; have Qf := n11_; clear n0_ n1_ n2_ n3_ n4_ n5_ n6_ n7_ n8_ n9_ n10_ n11_; clear hge_ hb hbox hg; have hnb26 := Qd.out; have hnc26 := Qc.out; have hnb27 := Qf.out; have hnc27 := Qe.out; obtain ⟨_, _, _, _, _, _, _, _, _, _⟩ := qqz BK425.out; obtain ⟨_, _, _, _, _, _, _, _, _, _⟩ := qqx BK425.out; have hcv29 := own_string (P := Tryd.prog) Tryd.underlying31 Tryd.underlying5 Tryd.underlying9 (Kd.own_of_R Q5.out); have hcv30 := fun (n_ : Nat) => own_string (P := Tryd.prog) Tryd.underlying31 Tryd.underlying5 Tryd.underlying9 (Kd.own_of_R (Kd.R_drewN Q5.out n_)); have hcv31 := own_string (P := Tryd.prog) Tryd.underlying31 Tryd.underlying5 Tryd.underlying9 (Kd.own_of_R Q7.out); have hcv32 := fun (n_ : Nat) => own_string (P := Tryd.prog) Tryd.underlying31 Tryd.underlying5 Tryd.underlying9 (Kd.own_of_R (Kd.R_drewN Q7.out n_)); obtain ⟨_, _, _, _, _, _, _, _, _, _⟩ := qqz Q6.out; obtain ⟨_, _, _, _, _, _, _, _, _, _⟩ := qqx Q6.out))
       go_ret
       exact ⟨by first | rfl | (simp [qqk, qqj] <;> rfl) | (simp [*, qqk, qqj] <;> rfl), by repeat (first | (with_reducible first | exact HB.out | apply qqc | apply qqa | apply qqb | refine qqg ?_ GE392.out | refine qqg ?_ GE413.out | refine qqg ?_ GE425.out) | exact HB.out)⟩
      ·rw [if_neg c15] at H
       exact absurd H (by simp)
     ·rw [if_neg c14] at H
      exact absurd H (by simp)
    ·rw [if_neg c13] at H
     exact absurd H (by simp)
def wayfinderlaw06_FrameTells.Pure : Prop := ∀ (a0_0 : Int) (a0_1 : Int) (a0_2 : Int) (a0_3 : Int) (a0_4 : Int) (a0_5 : Int) (a0_6 : Int) (a0_7 : Int) (a0_8 : Int) (a0_9 : Int) (l1 : List Int), (Lit.int .i64 a0_0).wf = true → (Lit.int .i64 a0_1).wf = true → (Lit.int .i64 a0_2).wf = true → (Lit.int .i64 a0_3).wf = true → (Lit.int .i64 a0_4).wf = true → (Lit.int .i64 a0_5).wf = true → (Lit.int .i64 a0_6).wf = true → (Lit.int .i64 a0_7).wf = true → (Lit.int .i64 a0_8).wf = true → (Lit.int .i64 a0_9).wf = true → l1.length ≤ maxLen → l1.length * 1 ≤ 140737488351232 → (∀ x ∈ l1, (Lit.int .u8 x).wf = true) → ∃ k, wayfinderlaw06_FrameTells.f k a0_0 a0_1 a0_2 a0_3 a0_4 a0_5 a0_6 a0_7 a0_8 a0_9 l1 = some true
theorem wayfinderlaw06_FrameTells.walk (P : wayfinderlaw06_FrameTells.Pure) (a0_0 : Int) (a0_1 : Int) (a0_2 : Int) (a0_3 : Int) (a0_4 : Int) (a0_5 : Int) (a0_6 : Int) (a0_7 : Int) (a0_8 : Int) (a0_9 : Int) (a1 : Option Addr) (len1 cap1 : Nat) (z1 : List Int) (w : World) (hG : Glob w) (w0_0 : (Lit.int .i64 a0_0).wf = true) (w0_1 : (Lit.int .i64 a0_1).wf = true) (w0_2 : (Lit.int .i64 a0_2).wf = true) (w0_3 : (Lit.int .i64 a0_3).wf = true) (w0_4 : (Lit.int .i64 a0_4).wf = true) (w0_5 : (Lit.int .i64 a0_5).wf = true) (w0_6 : (Lit.int .i64 a0_6).wf = true) (w0_7 : (Lit.int .i64 a0_7).wf = true) (w0_8 : (Lit.int .i64 a0_8).wf = true) (w0_9 : (Lit.int .i64 a0_9).wf = true) (w1 : (a1 = none ∧ len1 = 0 ∧ cap1 = 0 ∧ z1 = []) ∨ ∃ x, a1 = some x ∧ len1 ≤ cap1 ∧ cap1 ≤ maxLen ∧ z1.length = cap1 ∧ (∀ i, i < z1.length → w.cell? (x.add i) = some (.int .u8 (z1.getD i 0))) ∧ ∀ n ∈ z1, (Lit.int .u8 n).wf = true) (y1 : len1 * 1 ≤ 140737488351232) :
  Calls Tryd.prog 4 #[.agg #[.int .i64 a0_0, .int .i64 a0_1, .int .i64 a0_2, .int .i64 a0_3, .int .i64 a0_4, .int .i64 a0_5, .int .i64 a0_6, .int .i64 a0_7, .int .i64 a0_8, .int .i64 a0_9], .slice a1 len1 cap1] w fun e w' => e = .returned (.bool true) ∧ Below w.heap.size w w' := by
 obtain ⟨l1, rfl, hr1, hm1, hw1, hc1⟩ := ReadsInt.ofRowC w1
 obtain ⟨k, h⟩ := P a0_0 a0_1 a0_2 a0_3 a0_4 a0_5 a0_6 a0_7 a0_8 a0_9 l1 w0_0 w0_1 w0_2 w0_3 w0_4 w0_5 w0_6 w0_7 w0_8 w0_9 hm1 y1 hw1
 refine (wayfinderlaw06_FrameTells.calls k a0_0 a0_1 a0_2 a0_3 a0_4 a0_5 a0_6 a0_7 a0_8 a0_9 _ _ l1 true w (Kd.C_of_reads (d := (0 : Int)) (h1 := fun _ => rfl) hr1) hc1 hG h).mono ?_
 rintro e w' ⟨rfl, hd⟩
 exact ⟨rfl, hd⟩
end Go.Proofs.YtpaoofkahhhjaaaDoor.All
