/- Contracts of Go functions that this seat comes to, each with a plain function that tells its answers; conditions: those that each contract names. Written by a program of this session (wip/print) over the print words. -/
import Derived.Test.YtpaoofkahhhjaaaDoorQ3Allx0
namespace Go.Proofs.YtpaoofkahhhjaaaDoor.All
open Go.RowKit Go.Proofs.YtpaoofkahhhjaaaDoorW.PrintWords Go.Proofs.YtpaoofkahhhjaaaDoorW.PrintLast Go.Proofs.YtpaoofkahhhjaaaDoorW.PrintMore
attribute [local go_sem] max2_int min2_int max_two min_two max_three min_three max_four min_four
set_option linter.unusedVariables false
set_option linter.unusedSimpArgs false
mutual
def wayfinderref01_Bit.j0 : Nat → Int → Int → Bool → Option (Int)
 | 0, _, _, _ => none
 | k + 1, x0, x1, x12 => if x12 = true then (some 0) else (wayfinderref01_Bit.l0 k x1 (Go.bits .and .i64 x0 4294967295) 31)
def wayfinderref01_Bit.l0 : Nat → Int → Int → Int → Option (Int)
 | 0, _, _, _ => none
 | k + 1, x1, x5, x6 => if x6 > x1 then (wayfinderref01_Bit.l0 k x1 (wrap64 (Int.tdiv x5 2)) (wrap64 (x6 - 1))) else (some (Int.tmod x5 2))
end
def wayfinderref01_Bit.f (k : Nat) (a0 : Int) (a1 : Int) : Option (Int) := if a1 < 0 then (wayfinderref01_Bit.j0 k a0 a1 true) else (wayfinderref01_Bit.j0 k a0 a1 (decide (a1 > 31)))
theorem wayfinderref01_Bit.mono_l : ∀ k, (∀ y0 y1 y2, LeO (wayfinderref01_Bit.j0 k y0 y1 y2) (wayfinderref01_Bit.j0 (k + 1) y0 y1 y2)) ∧ (∀ y0 y1 y2, LeO (wayfinderref01_Bit.l0 k y0 y1 y2) (wayfinderref01_Bit.l0 (k + 1) y0 y1 y2))
 | 0 => ⟨fun _ _ _ r h => by simp [wayfinderref01_Bit.j0] at h, fun _ _ _ r h => by simp [wayfinderref01_Bit.l0] at h⟩
 | k + 1 => by
  obtain ⟨ih0, ih1⟩ := wayfinderref01_Bit.mono_l k
  refine ⟨?_, ?_⟩
  ·intro y0 y1 y2
   unfold wayfinderref01_Bit.j0
   repeat' first
   | (with_reducible exact ih0 _ _ _)
   | (with_reducible exact ih1 _ _ _)
   | (with_reducible exact LeO.refl _)
   | (with_reducible exact LeO.none _)
   | (with_reducible refine LeO.ite ?_ ?_)
   | (with_reducible refine LeO.bind ?_ (fun _ => ?_))
   | exact ih0 _ _ _
   | exact ih1 _ _ _
   | exact LeO.none _
   | refine LeO.ite ?_ ?_
   | refine LeO.bind ?_ (fun _ => ?_)
  ·intro y0 y1 y2
   unfold wayfinderref01_Bit.l0
   repeat' first
   | (with_reducible exact ih0 _ _ _)
   | (with_reducible exact ih1 _ _ _)
   | (with_reducible exact LeO.refl _)
   | (with_reducible exact LeO.none _)
   | (with_reducible refine LeO.ite ?_ ?_)
   | (with_reducible refine LeO.bind ?_ (fun _ => ?_))
   | exact ih0 _ _ _
   | exact ih1 _ _ _
   | exact LeO.none _
   | refine LeO.ite ?_ ?_
   | refine LeO.bind ?_ (fun _ => ?_)
theorem wayfinderref01_Bit.mono : ∀ a0 a1 k, LeO (wayfinderref01_Bit.f k a0 a1) (wayfinderref01_Bit.f (k + 1) a0 a1) := by
 intro a0 a1 k
 obtain ⟨ih0, ih1⟩ := wayfinderref01_Bit.mono_l k
 unfold wayfinderref01_Bit.f
 repeat' first
   | (with_reducible exact ih0 _ _ _)
   | (with_reducible exact ih1 _ _ _)
   | (with_reducible exact LeO.refl _)
   | (with_reducible exact LeO.none _)
   | (with_reducible refine LeO.ite ?_ ?_)
   | (with_reducible refine LeO.bind ?_ (fun _ => ?_))
   | exact ih0 _ _ _
   | exact ih1 _ _ _
   | exact LeO.none _
   | refine LeO.ite ?_ ?_
   | refine LeO.bind ?_ (fun _ => ?_)
set_option maxHeartbeats 8000000 in
set_option maxRecDepth 100000 in
theorem wayfinderref01_Bit.calls (k : Nat) (a0 : Int) (a1 : Int) (r : Int) (w : World) (h : wayfinderref01_Bit.f k a0 a1 = some r) :
  Calls Tryd.prog 51 #[.int .i64 a0, .int .i64 a1] w fun e w' => e = .returned (.int .i64 r) ∧ Drawn0 w w' := by
 have H : (if a1 < 0 then (wayfinderref01_Bit.j0 k a0 a1 true) else (wayfinderref01_Bit.j0 k a0 a1 (decide (a1 > 31)))) = some r := h
 clear h
 have HC3 := Aside0.mk H
 clear H
 go_enter Tryd.func51, Tryd.ntmps51
 go_upto_region 1 with (fail)
 go_cut [12] (fun v12 wc => ∃ (kq : Nat) (x12_2 : Bool), v12 = .bool x12_2 ∧ Aside0 (wayfinderref01_Bit.j0 kq a0 a1 x12_2 = some r) ∧ Aside0 (kq ≤ k) ∧ Drawn0 w wc)
 case first =>
  have H := HC3.out
  clear HC3
  by_cases c4 : a1 < 0
  ·rw [if_pos c4] at H
   have Q2 : decide (a1 < 0) = true := decide_eq_true c4
   clear c4
   (first | rw [Q2] | (simp only [qqs, qqu]; rw [Q2]) | skip)
   have H' := Aside0.mk H
   clear H
   go_wp2
   go_meet
   case rel => exact ⟨_, (true), (by first | rfl | (simp; done) | (simp [*]; done)), H', ⟨by first | omega | exact Nat.le_refl _⟩, by repeat (first | exact Drawn0.refl _ | apply Drawn0.step)⟩
  ·rw [if_neg c4] at H
   have Q2 : decide (a1 < 0) = false := decide_eq_false c4
   clear c4
   (first | rw [Q2] | (simp only [qqs, qqu]; rw [Q2]) | skip)
   have H' := Aside0.mk H
   clear H
   go_wp2
   go_meet
   case rel => exact ⟨_, (decide (a1 > 31)), (by first | rfl | (simp; done) | (simp [*]; done)), H', ⟨by first | omega | exact Nat.le_refl _⟩, by repeat (first | exact Drawn0.refl _ | apply Drawn0.step)⟩
 case rest =>
  clear HC3
  try clear p2
  try clear c4
  try clear Q2
  obtain ⟨kq, x12_2, rfl, HA, HJ2, ⟨mc2, rfl⟩⟩ := hcut
  cases kq with
  | zero => exact absurd HA.out (by simp [wayfinderref01_Bit.j0])
  | succ kj2 =>
   have H := HA.out
   clear HA
   simp only [wayfinderref01_Bit.j0] at H
   by_cases c5 : x12_2 = true
   ·subst c5
    have H1 : (some 0) = some r := by rw [if_pos rfl] at H; exact H
    clear H
    have H := H1
    clear H1
    obtain rfl := Option.some.inj H
    go_wp2
    go_ret
    exact ⟨by first | rfl | (simp; done) | (simp [*]; done), by repeat (first | exact Drawn0.refl _ | apply Drawn0.step)⟩
   ·replace c5 := Bool.eq_false_iff.mpr c5
    subst c5
    have H1 : (wayfinderref01_Bit.l0 kj2 a1 (Go.bits .and .i64 a0 4294967295) 31) = some r := by rw [if_neg (show ¬ (false = true) by decide)] at H; exact H
    clear H
    have H := H1
    clear H1
    have H' := Aside0.mk H
    clear H
    go_wp2
    go_loopg [5, 6] kj2 (fun kq v5 v6 w' => ∃ (x5_2 : Int) (x6_2 : Int), v5 = .int .i64 x5_2 ∧ v6 = .int .i64 x6_2 ∧ Aside0 (wayfinderref01_Bit.l0 kq a1 x5_2 x6_2 = some r) ∧ Aside0 (kq ≤ kj2) ∧ Drawn0 w w')
    case atStart => exact ⟨(Go.bits .and .i64 a0 4294967295), (31), (by first | rfl | (simp; done) | (simp [*]; done)), (by first | rfl | (simp; done) | (simp [*]; done)), H', ⟨Nat.le_refl _⟩, by repeat (first | exact Drawn0.refl _ | apply Drawn0.step)⟩
    case round =>
     clear H'
     try clear c2
     try clear p2
     try clear c4
     try clear Q2
     try clear c5
     try clear p2
     obtain ⟨x5_2, x6_2, rfl, rfl, HA, HK2, ⟨m2, rfl⟩⟩ := hrel
     cases gk with
     | zero => exact absurd HA.out (by simp [wayfinderref01_Bit.l0])
     | succ k2 =>
      have H := HA.out
      clear HA
      simp only [wayfinderref01_Bit.l0] at H
      by_cases c6 : x6_2 > a1
      ·rw [if_pos c6] at H
       have c6b0 : decide (a1 < x6_2) = true := decide_eq_true c6
       clear c6
       have H' := Aside0.mk H
       clear H
       go_wp2
       go_roundg k2
       case measure => have := HJ2.out; have := HK2.out; omega
       case rel => exact ⟨(wrap64 (Int.tdiv x5_2 2)), (wrap64 (x6_2 - 1)), (by first | rfl | (simp; done) | (simp [*]; done)), (by first | rfl | (simp; done) | (simp [*]; done)), H', ⟨by have := HJ2.out; have := HK2.out; omega⟩, by repeat (first | exact Drawn0.refl _ | apply Drawn0.step)⟩
      ·rw [if_neg c6] at H
       have c6b0 : decide (a1 < x6_2) = false := decide_eq_false c6
       clear c6
       obtain rfl := Option.some.inj H
       go_wp2
       go_ret
       exact ⟨by first | rfl | (simp; done) | (simp [*]; done), by repeat (first | exact Drawn0.refl _ | apply Drawn0.step)⟩
mutual
def wayfinderref01_May.j0 : Nat → Bool → Int → Int → Option (Bool)
 | 0, _, _, _ => none
 | k + 1, x21, x178000, x178001 => if x21 = true then (some false) else (wayfinderref01_May.l0 k x178001 x178000 x178001)
def wayfinderref01_May.l0 : Nat → Int → Int → Int → Option (Bool)
 | 0, _, _, _ => none
 | k + 1, x3, x178000, x178001 => if x3 < 32 then ((wayfinderref01_Bit.f k x178000 x3).bind fun t178 => (if t178 = 1 then (some false) else (wayfinderref01_May.l0 k (wrap64 (x3 + 1)) x178000 x178001))) else (some true)
end
def wayfinderref01_May.f (k : Nat) (a0_0 : Int) (a0_1 : Int) : Option (Bool) := if a0_1 < 0 then (wayfinderref01_May.j0 k true a0_0 a0_1) else (if a0_1 > 32 then (wayfinderref01_May.j0 k true a0_0 a0_1) else (if a0_0 < 0 then (wayfinderref01_May.j0 k true a0_0 a0_1) else (wayfinderref01_May.j0 k (decide (a0_0 > 4294967295)) a0_0 a0_1)))
theorem wayfinderref01_May.mono_l : ∀ k, (∀ y0 y1 y2, LeO (wayfinderref01_May.j0 k y0 y1 y2) (wayfinderref01_May.j0 (k + 1) y0 y1 y2)) ∧ (∀ y0 y1 y2, LeO (wayfinderref01_May.l0 k y0 y1 y2) (wayfinderref01_May.l0 (k + 1) y0 y1 y2))
 | 0 => ⟨fun _ _ _ r h => by simp [wayfinderref01_May.j0] at h, fun _ _ _ r h => by simp [wayfinderref01_May.l0] at h⟩
 | k + 1 => by
  obtain ⟨ih0, ih1⟩ := wayfinderref01_May.mono_l k
  refine ⟨?_, ?_⟩
  ·intro y0 y1 y2
   unfold wayfinderref01_May.j0
   repeat' first
   | (with_reducible exact ih0 _ _ _)
   | (with_reducible exact ih1 _ _ _)
   | (with_reducible exact wayfinderref01_Bit.mono _ _ _)
   | (with_reducible exact LeO.refl _)
   | (with_reducible exact LeO.none _)
   | (with_reducible refine LeO.ite ?_ ?_)
   | (with_reducible refine LeO.bind ?_ (fun _ => ?_))
   | exact ih0 _ _ _
   | exact ih1 _ _ _
   | exact wayfinderref01_Bit.mono _ _ _
   | exact LeO.none _
   | refine LeO.ite ?_ ?_
   | refine LeO.bind ?_ (fun _ => ?_)
  ·intro y0 y1 y2
   unfold wayfinderref01_May.l0
   repeat' first
   | (with_reducible exact ih0 _ _ _)
   | (with_reducible exact ih1 _ _ _)
   | (with_reducible exact wayfinderref01_Bit.mono _ _ _)
   | (with_reducible exact LeO.refl _)
   | (with_reducible exact LeO.none _)
   | (with_reducible refine LeO.ite ?_ ?_)
   | (with_reducible refine LeO.bind ?_ (fun _ => ?_))
   | exact ih0 _ _ _
   | exact ih1 _ _ _
   | exact wayfinderref01_Bit.mono _ _ _
   | exact LeO.none _
   | refine LeO.ite ?_ ?_
   | refine LeO.bind ?_ (fun _ => ?_)
theorem wayfinderref01_May.mono : ∀ a0 a1 k, LeO (wayfinderref01_May.f k a0 a1) (wayfinderref01_May.f (k + 1) a0 a1) := by
 intro a0 a1 k
 obtain ⟨ih0, ih1⟩ := wayfinderref01_May.mono_l k
 unfold wayfinderref01_May.f
 repeat' first
   | (with_reducible exact ih0 _ _ _)
   | (with_reducible exact ih1 _ _ _)
   | (with_reducible exact wayfinderref01_Bit.mono _ _ _)
   | (with_reducible exact LeO.refl _)
   | (with_reducible exact LeO.none _)
   | (with_reducible refine LeO.ite ?_ ?_)
   | (with_reducible refine LeO.bind ?_ (fun _ => ?_))
   | exact ih0 _ _ _
   | exact ih1 _ _ _
   | exact wayfinderref01_Bit.mono _ _ _
   | exact LeO.none _
   | refine LeO.ite ?_ ?_
   | refine LeO.bind ?_ (fun _ => ?_)
set_option maxHeartbeats 8000000 in
set_option maxRecDepth 100000 in
theorem wayfinderref01_May.calls (k : Nat) (a0_0 : Int) (a0_1 : Int) (r : Bool) (w : World) (h : wayfinderref01_May.f k a0_0 a0_1 = some r) :
  Calls Tryd.prog 49 #[.agg #[.int .i64 a0_0, .int .i64 a0_1]] w fun e w' => e = .returned (.bool r) ∧ Below w.heap.size w w' := by
 have hu23 := Tryd.underlying23
 have HB := Aside0.mk (Below.refl w.heap.size w)
 have H : (if a0_1 < 0 then (wayfinderref01_May.j0 k true a0_0 a0_1) else (if a0_1 > 32 then (wayfinderref01_May.j0 k true a0_0 a0_1) else (if a0_0 < 0 then (wayfinderref01_May.j0 k true a0_0 a0_1) else (wayfinderref01_May.j0 k (decide (a0_0 > 4294967295)) a0_0 a0_1)))) = some r := h
 clear h
 have HC2 := Aside0.mk H
 clear H
 go_enter Tryd.func49, Tryd.ntmps49
 go_upto_region 1 with (first | ((with_reducible refine qqr (N := 1) rfl ?_); refine qqw ?hg (N := 1) ?hd (cs := #[.int .i64 a0_0, .int .i64 a0_1]) (t := 23) ?hr ?_; (case hd => rfl); (case hg => rfl); (case hr => first | (go_simp; done) | (go_simp; rfl)); intro gb177 hg w3 hbox hb; have n0_ := bst HB hb; have n1_ := Aside0.mk (hbox); have n2_ := szl HB hg; have n3_ := szl HB hg; clear HB; have HB := n0_; have Q1 := n1_; have GW177 := n2_; have GE177 := n3_; clear n0_ n1_ n2_ n3_; clear hb hbox hg))
 (try simp only [Act.put, qsA, qsB, qsC])
 go_cut [21] (fun v21 wc => ∃ (kq : Nat) (x21_1 : Bool), v21 = .bool x21_1 ∧ Aside0 (wayfinderref01_May.j0 kq x21_1 a0_0 a0_1 = some r) ∧ Aside0 (kq ≤ k) ∧ Aside0 (wc.heap[gb177]? = some (.cells #[.int .i64 a0_0, .int .i64 a0_1] 23 (0, 0))) ∧ Aside0 (Below w.heap.size w wc))
 case first =>
  have H := HC2.out
  clear HC2
  by_cases c4 : a0_1 < 0
  ·rw [if_pos c4] at H
   have Q2 : decide (a0_1 < 0) = true := decide_eq_true c4
   clear c4
   (first | rw [Q2] | (simp only [qqs, qqu]; rw [Q2]) | skip)
   have H' := Aside0.mk H
   clear H
   obtain ⟨Q4, Q5⟩ := bcells2 Q1.out
   obtain ⟨Q6, Q7⟩ := bfrozen2 Q1.out
   go_wp2
   go_meet
   case rel => exact ⟨_, (true), (by first | rfl | (simp; done) | (simp [*]; done)), H', ⟨by first | omega | exact Nat.le_refl _⟩, ⟨by (with_reducible repeat (first | refine qqd ?_ _ | refine qqf ?_ | refine qqe ?_ _)); exact Q1.out⟩, ⟨by repeat (first | (with_reducible first | exact HB.out | apply qqc | apply qqa | apply qqb | refine qqg ?_ GE177.out) | exact HB.out)⟩⟩
  ·rw [if_neg c4] at H
   have Q2 : decide (a0_1 < 0) = false := decide_eq_false c4
   clear c4
   (first | rw [Q2] | (simp only [qqs, qqu]; rw [Q2]) | skip)
   by_cases c6 : a0_1 > 32
   ·rw [if_pos c6] at H
    have c6b0 : decide (32 < a0_1) = true := decide_eq_true c6
    clear c6
    have H' := Aside0.mk H
    clear H
    obtain ⟨hcz7_0, hcz7_1⟩ := bcells2 Q1.out
    obtain ⟨hfz7_0, hfz7_1⟩ := bfrozen2 Q1.out
    go_wp2
    go_meet
    case rel => exact ⟨_, (true), (by first | rfl | (simp; done) | (simp [*]; done)), H', ⟨by first | omega | exact Nat.le_refl _⟩, ⟨by (with_reducible repeat (first | refine qqd ?_ _ | refine qqf ?_ | refine qqe ?_ _)); exact Q1.out⟩, ⟨by repeat (first | (with_reducible first | exact HB.out | apply qqc | apply qqa | apply qqb | refine qqg ?_ GE177.out) | exact HB.out)⟩⟩
   ·rw [if_neg c6] at H
    have c6b0 : decide (32 < a0_1) = false := decide_eq_false c6
    clear c6
    by_cases c8 : a0_0 < 0
    ·rw [if_pos c8] at H
     have c8b0 : decide (a0_0 < 0) = true := decide_eq_true c8
     clear c8
     have H' := Aside0.mk H
     clear H
     obtain ⟨Q8, Q9⟩ := bcells2 Q1.out
     obtain ⟨Qa, Qb⟩ := bfrozen2 Q1.out
     go_wp2
     go_meet
     case rel => exact ⟨_, (true), (by first | rfl | (simp; done) | (simp [*]; done)), H', ⟨by first | omega | exact Nat.le_refl _⟩, ⟨by (with_reducible repeat (first | refine qqd ?_ _ | refine qqf ?_ | refine qqe ?_ _)); exact Q1.out⟩, ⟨by repeat (first | (with_reducible first | exact HB.out | apply qqc | apply qqa | apply qqb | refine qqg ?_ GE177.out) | exact HB.out)⟩⟩
    ·rw [if_neg c8] at H
     have c8b0 : decide (a0_0 < 0) = false := decide_eq_false c8
     clear c8
     have H' := Aside0.mk H
     clear H
     obtain ⟨Qc, Qd⟩ := bcells2 Q1.out
     obtain ⟨Qe, Qf⟩ := bfrozen2 Q1.out
     go_wp2
     go_meet
     case rel => exact ⟨_, (decide (a0_0 > 4294967295)), (by first | rfl | (simp; done) | (simp [*]; done)), H', ⟨by first | omega | exact Nat.le_refl _⟩, ⟨by (with_reducible repeat (first | refine qqd ?_ _ | refine qqf ?_ | refine qqe ?_ _)); exact Q1.out⟩, ⟨by repeat (first | (with_reducible first | exact HB.out | apply qqc | apply qqa | apply qqb | refine qqg ?_ GE177.out) | exact HB.out)⟩⟩
 case rest =>
  clear HC2
  try clear p2
  try clear c4
  try clear Q2
  try clear c6
  try clear c6b0
  try clear c8
  try clear c8b0
  try clear Qc
  try clear Qd
  try clear Q4
  try clear Q5
  try clear hcz7_0
  try clear hcz7_1
  try clear Q8
  try clear Q9
  try clear Qe
  try clear Qf
  try clear Q6
  try clear Q7
  try clear hfz7_0
  try clear hfz7_1
  try clear Qa
  try clear Qb
  obtain ⟨kq, x21_1, rfl, HA, HJ1, Q1, HB⟩ := hcut
  cases kq with
  | zero => exact absurd HA.out (by simp [wayfinderref01_May.j0])
  | succ kj1 =>
   have H := HA.out
   clear HA
   simp only [wayfinderref01_May.j0] at H
   by_cases c11 : x21_1 = true
   ·subst c11
    have H1 : (some false) = some r := by rw [if_pos rfl] at H; exact H
    clear H
    have H := H1
    clear H1
    obtain rfl := Option.some.inj H
    go_wp2
    go_ret
    exact ⟨by first | rfl | (simp [qqk, qqj] <;> rfl) | (simp [*, qqk, qqj] <;> rfl), by repeat (first | (with_reducible first | exact HB.out | apply qqc | apply qqa | apply qqb | refine qqg ?_ GE177.out) | exact HB.out)⟩
   ·replace c11 := Bool.eq_false_iff.mpr c11
    subst c11
    have H1 : (wayfinderref01_May.l0 kj1 a0_1 a0_0 a0_1) = some r := by rw [if_neg (show ¬ (false = true) by decide)] at H; exact H
    clear H
    have H := H1
    clear H1
    have H' := Aside0.mk H
    clear H
    obtain ⟨hcz12_0, hcz12_1⟩ := bcells2 Q1.out
    obtain ⟨hfz12_0, hfz12_1⟩ := bfrozen2 Q1.out
    go_wp2
    go_loopg [3] kj1 (fun kq v3 w' => ∃ (Q3 : Int), v3 = .int .i64 Q3 ∧ Aside0 (wayfinderref01_May.l0 kq Q3 a0_0 a0_1 = some r) ∧ Aside0 (kq ≤ kj1) ∧ Aside0 (w'.heap[gb177]? = some (.cells #[.int .i64 a0_0, .int .i64 a0_1] 23 (0, 0))) ∧ Aside0 (Below w.heap.size w w'))
    case atStart => exact ⟨(a0_1), (by first | rfl | (simp; done) | (simp [*]; done)), H', ⟨Nat.le_refl _⟩, ⟨by (with_reducible repeat (first | refine qqd ?_ _ | refine qqf ?_ | refine qqe ?_ _)); exact Q1.out⟩, ⟨by repeat (first | (with_reducible first | exact HB.out | apply qqc | apply qqa | apply qqb | refine qqg ?_ GE177.out) | exact HB.out)⟩⟩
    case round =>
     clear H'
     try clear c1
     try clear p2
     try clear c4
     try clear Q2
     try clear c6
     try clear c6b0
     try clear c8
     try clear c8b0
     try clear c11
     try clear Qc
     try clear Qd
     try clear hcz12_0
     try clear hcz12_1
     try clear Q4
     try clear Q5
     try clear hcz7_0
     try clear hcz7_1
     try clear Q8
     try clear Q9
     try clear Qe
     try clear Qf
     try clear hfz12_0
     try clear hfz12_1
     try clear Q6
     try clear Q7
     try clear hfz7_0
     try clear hfz7_1
     try clear Qa
     try clear Qb
     try clear p2
     obtain ⟨Q3, rfl, HA, HK2, Q1, HB⟩ := hrel
     cases gk with
     | zero => exact absurd HA.out (by simp [wayfinderref01_May.l0])
     | succ k2 =>
      have H := HA.out
      clear HA
      simp only [wayfinderref01_May.l0] at H
      by_cases c13 : Q3 < 32
      ·rw [if_pos c13] at H
       have c13b0 : decide (Q3 < 32) = true := decide_eq_true c13
       clear c13
       replace H := Option.bind_eq_some_iff.mp H
       obtain ⟨t178, A140, H⟩ := H
       replace H : (if t178 = 1 then (some false) else (wayfinderref01_May.l0 k2 (wrap64 (Q3 + 1)) a0_0 a0_1)) = some r := H
       have A14 := Aside0.mk A140
       clear A140
       by_cases c15 : t178 = 1
       ·rw [if_pos c15] at H
        have c15b0 : (t178 == 1) = true := beq_iff_eq.mpr c15
        have c15b1 : (t178 != 1) = false := bne_eq_false_iff_eq.mpr c15
        clear c15
        obtain rfl := Option.some.inj H
        obtain ⟨_, _⟩ := bcells2 Q1.out
        obtain ⟨_, _⟩ := bfrozen2 Q1.out
        go_wp2_with (first | ((with_reducible refine qqo (f := 51) rfl ?_); refine goesL_ (some 31) rfl rfl Tryd.func51 (by kernel_rfl) rfl #[.int .i64 a0_0, .int .i64 Q3] rfl (by (try simp only [List.map_toArray, List.map_cons, List.map_nil]); first | done | rfl | (simp only [List.length_drop, List.length_take]; rfl)) ?_; (with_reducible refine (wayfinderref01_Bit.calls k2 a0_0 Q3 t178 _ A14.out).mono ?_); rintro e w' ⟨rfl, ⟨nd, rfl⟩⟩; refine ⟨_, rfl, ?_⟩))
        go_ret
        exact ⟨by first | rfl | (simp [qqk, qqj] <;> rfl) | (simp [*, qqk, qqj] <;> rfl), by repeat (first | (with_reducible first | exact HB.out | apply qqc | apply qqa | apply qqb | refine qqg ?_ GE177.out) | exact HB.out)⟩
       ·rw [if_neg c15] at H
        have c15b0 : (t178 == 1) = false := beq_eq_false_iff_ne.mpr c15
        have c15b1 : (t178 != 1) = true := bne_iff_ne.mpr c15
        have H' := Aside0.mk H
        clear H
        obtain ⟨hcz17_0, hcz17_1⟩ := bcells2 Q1.out
        obtain ⟨hfz17_0, hfz17_1⟩ := bfrozen2 Q1.out
        go_wp2_with (first | ((with_reducible refine qqo (f := 51) rfl ?_); refine goesL_ (some 31) rfl rfl Tryd.func51 (by kernel_rfl) rfl #[.int .i64 a0_0, .int .i64 Q3] rfl (by (try simp only [List.map_toArray, List.map_cons, List.map_nil]); first | done | rfl | (simp only [List.length_drop, List.length_take]; rfl)) ?_; (with_reducible refine (wayfinderref01_Bit.calls k2 a0_0 Q3 t178 _ A14.out).mono ?_); rintro e w' ⟨rfl, ⟨nd, rfl⟩⟩; refine ⟨_, rfl, ?_⟩))
        go_roundg k2
        case measure => have := HJ1.out; have := HK2.out; omega
        case rel => exact ⟨(wrap64 (Q3 + 1)), (by first | rfl | (simp; done) | (simp [*]; done)), H', ⟨by have := HJ1.out; have := HK2.out; omega⟩, ⟨by (with_reducible repeat (first | refine qqd ?_ _ | refine qqf ?_ | refine qqe ?_ _)); exact Q1.out⟩, ⟨by repeat (first | (with_reducible first | exact HB.out | apply qqc | apply qqa | apply qqb | refine qqg ?_ GE177.out) | exact HB.out)⟩⟩
      ·rw [if_neg c13] at H
       have c13b0 : decide (Q3 < 32) = false := decide_eq_false c13
       clear c13
       obtain rfl := Option.some.inj H
       go_wp2
       go_ret
       exact ⟨by first | rfl | (simp [qqk, qqj] <;> rfl) | (simp [*, qqk, qqj] <;> rfl), by repeat (first | (with_reducible first | exact HB.out | apply qqc | apply qqa | apply qqb | refine qqg ?_ GE177.out) | exact HB.out)⟩
def wayfinderref04_May.j0 : Nat → Bool → Int → Int → Int → Int → Int → Int → Option (Bool)
 | 0, _, _, _, _, _, _, _ => none
 | k + 1, x28, x180000, x180001, x180002, x180003, x180004, x180005 => if x28 = true then (some false) else (if x180004 = 0 then (some (x180005 == 0)) else (if x180004 = 1 then (if x180005 ≥ 0 then (some (decide (x180005 ≤ 7))) else (some false)) else (some false)))
def wayfinderref04_May.f (k : Nat) (a0_0 : Int) (a0_1 : Int) (a0_2 : Int) (a0_3 : Int) (a0_4 : Int) (a0_5 : Int) : Option (Bool) := (wayfinderref01_May.f k a0_0 a0_1).bind fun t180 => (if t180 = true then (if a0_2 < (-1) then (wayfinderref04_May.j0 k true a0_0 a0_1 a0_2 a0_3 a0_4 a0_5) else (if a0_2 > 7 then (wayfinderref04_May.j0 k true a0_0 a0_1 a0_2 a0_3 a0_4 a0_5) else (if a0_3 < 0 then (wayfinderref04_May.j0 k true a0_0 a0_1 a0_2 a0_3 a0_4 a0_5) else (wayfinderref04_May.j0 k (decide (a0_3 > 255)) a0_0 a0_1 a0_2 a0_3 a0_4 a0_5)))) else (wayfinderref04_May.j0 k true a0_0 a0_1 a0_2 a0_3 a0_4 a0_5))
theorem wayfinderref04_May.mono_l : ∀ k, (∀ y0 y1 y2 y3 y4 y5 y6, LeO (wayfinderref04_May.j0 k y0 y1 y2 y3 y4 y5 y6) (wayfinderref04_May.j0 (k + 1) y0 y1 y2 y3 y4 y5 y6))
 | 0 => fun _ _ _ _ _ _ _ r h => by simp [wayfinderref04_May.j0] at h
 | k + 1 => by
  have ih0 := wayfinderref04_May.mono_l k
  ·intro y0 y1 y2 y3 y4 y5 y6
   unfold wayfinderref04_May.j0
   repeat' first
   | (with_reducible exact ih0 _ _ _ _ _ _ _)
   | (with_reducible exact wayfinderref01_May.mono _ _ _)
   | (with_reducible exact LeO.refl _)
   | (with_reducible exact LeO.none _)
   | (with_reducible refine LeO.ite ?_ ?_)
   | (with_reducible refine LeO.bind ?_ (fun _ => ?_))
   | exact ih0 _ _ _ _ _ _ _
   | exact wayfinderref01_May.mono _ _ _
   | exact LeO.none _
   | refine LeO.ite ?_ ?_
   | refine LeO.bind ?_ (fun _ => ?_)
theorem wayfinderref04_May.mono : ∀ a0 a1 a2 a3 a4 a5 k, LeO (wayfinderref04_May.f k a0 a1 a2 a3 a4 a5) (wayfinderref04_May.f (k + 1) a0 a1 a2 a3 a4 a5) := by
 intro a0 a1 a2 a3 a4 a5 k
 have ih0 := wayfinderref04_May.mono_l k
 unfold wayfinderref04_May.f
 repeat' first
   | (with_reducible exact ih0 _ _ _ _ _ _ _)
   | (with_reducible exact wayfinderref01_May.mono _ _ _)
   | (with_reducible exact LeO.refl _)
   | (with_reducible exact LeO.none _)
   | (with_reducible refine LeO.ite ?_ ?_)
   | (with_reducible refine LeO.bind ?_ (fun _ => ?_))
   | exact ih0 _ _ _ _ _ _ _
   | exact wayfinderref01_May.mono _ _ _
   | exact LeO.none _
   | refine LeO.ite ?_ ?_
   | refine LeO.bind ?_ (fun _ => ?_)
set_option maxHeartbeats 8000000 in
set_option maxRecDepth 100000 in
theorem wayfinderref04_May.calls (k : Nat) (a0_0 : Int) (a0_1 : Int) (a0_2 : Int) (a0_3 : Int) (a0_4 : Int) (a0_5 : Int) (r : Bool) (w : World) (h : wayfinderref04_May.f k a0_0 a0_1 a0_2 a0_3 a0_4 a0_5 = some r) :
  Calls Tryd.prog 44 #[.agg #[.int .i64 a0_0, .int .i64 a0_1, .int .i64 a0_2, .int .i64 a0_3, .int .i64 a0_4, .int .i64 a0_5]] w fun e w' => e = .returned (.bool r) ∧ Below w.heap.size w w' := by
 have hu27 := Tryd.underlying27
 have hu23 := Tryd.underlying23
 have HB := Aside0.mk (Below.refl w.heap.size w)
 have H : ((wayfinderref01_May.f k a0_0 a0_1).bind fun t180 => (if t180 = true then (if a0_2 < (-1) then (wayfinderref04_May.j0 k true a0_0 a0_1 a0_2 a0_3 a0_4 a0_5) else (if a0_2 > 7 then (wayfinderref04_May.j0 k true a0_0 a0_1 a0_2 a0_3 a0_4 a0_5) else (if a0_3 < 0 then (wayfinderref04_May.j0 k true a0_0 a0_1 a0_2 a0_3 a0_4 a0_5) else (wayfinderref04_May.j0 k (decide (a0_3 > 255)) a0_0 a0_1 a0_2 a0_3 a0_4 a0_5)))) else (wayfinderref04_May.j0 k true a0_0 a0_1 a0_2 a0_3 a0_4 a0_5))) = some r := h
 clear h
 replace H := Option.bind_eq_some_iff.mp H
 obtain ⟨t180, A20, H⟩ := H
 replace H : (if t180 = true then (if a0_2 < (-1) then (wayfinderref04_May.j0 k true a0_0 a0_1 a0_2 a0_3 a0_4 a0_5) else (if a0_2 > 7 then (wayfinderref04_May.j0 k true a0_0 a0_1 a0_2 a0_3 a0_4 a0_5) else (if a0_3 < 0 then (wayfinderref04_May.j0 k true a0_0 a0_1 a0_2 a0_3 a0_4 a0_5) else (wayfinderref04_May.j0 k (decide (a0_3 > 255)) a0_0 a0_1 a0_2 a0_3 a0_4 a0_5)))) else (wayfinderref04_May.j0 k true a0_0 a0_1 a0_2 a0_3 a0_4 a0_5)) = some r := H
 have A2 := Aside0.mk A20
 clear A20
 have HC3 := Aside0.mk H
 clear H
 go_enter Tryd.func44, Tryd.ntmps44
 go_upto_region 2 with (first | ((with_reducible refine qqr (N := 1) rfl ?_); refine qqw ?hg (N := 1) ?hd (cs := #[.int .i64 a0_0, .int .i64 a0_1, .int .i64 a0_2, .int .i64 a0_3, .int .i64 a0_4, .int .i64 a0_5]) (t := 27) ?hr ?_; (case hd => rfl); (case hg => rfl); (case hr => first | (go_simp; done) | (go_simp; rfl)); intro gb179 hg w4 hbox hb; have n0_ := bst HB hb; have n1_ := Aside0.mk (hbox); have n2_ := szl HB hg; have n3_ := szl HB hg; clear HB; have HB := n0_; have Q0 := n1_; have GW179 := n2_; have GE179 := n3_; clear n0_ n1_ n2_ n3_; clear hb hbox hg; obtain ⟨Q4, Q5, hcz5_2, hcz5_3, hcz5_4, hcz5_5⟩ := bcells6 Q0.out; obtain ⟨Q6, Q7, hfz5_2, hfz5_3, hfz5_4, hfz5_5⟩ := bfrozen6 Q0.out) | ((with_reducible refine qqo (f := 49) rfl ?_); refine goesL_ (some 6) rfl rfl Tryd.func49 (by kernel_rfl) rfl #[.agg #[.int .i64 a0_0, .int .i64 a0_1]] rfl (by (try simp only [List.map_toArray, List.map_cons, List.map_nil]); first | done | rfl | (simp only [List.length_drop, List.length_take]; rfl)) ?_; (with_reducible refine (wayfinderref01_May.calls k a0_0 a0_1 t180 _ A2.out).mono ?_); rintro e w6 ⟨rfl, hb⟩; refine ⟨_, rfl, ?_⟩; have n0_ := bbl Q0 hb; have n1_ := bst HB hb; clear Q0; clear HB; have Q0 := n0_; have HB := n1_; clear n0_ n1_; (try clear hb)))
 (try simp only [Act.put, qsA, qsB, qsC])
 go_cut [28] (fun v28 wc => ∃ (kq : Nat) (x28_2 : Bool), v28 = .bool x28_2 ∧ Aside0 (wayfinderref04_May.j0 kq x28_2 a0_0 a0_1 a0_2 a0_3 a0_4 a0_5 = some r) ∧ Aside0 (kq ≤ k) ∧ Aside0 (wc.heap[gb179]? = some (.cells #[.int .i64 a0_0, .int .i64 a0_1, .int .i64 a0_2, .int .i64 a0_3, .int .i64 a0_4, .int .i64 a0_5] 27 (0, 0))) ∧ Aside0 (Below w.heap.size w wc))
 case first =>
  have H := HC3.out
  clear HC3
  by_cases c7 : t180 = true
  ·subst c7
   have H1 : (if a0_2 < (-1) then (wayfinderref04_May.j0 k true a0_0 a0_1 a0_2 a0_3 a0_4 a0_5) else (if a0_2 > 7 then (wayfinderref04_May.j0 k true a0_0 a0_1 a0_2 a0_3 a0_4 a0_5) else (if a0_3 < 0 then (wayfinderref04_May.j0 k true a0_0 a0_1 a0_2 a0_3 a0_4 a0_5) else (wayfinderref04_May.j0 k (decide (a0_3 > 255)) a0_0 a0_1 a0_2 a0_3 a0_4 a0_5)))) = some r := by rw [if_pos rfl] at H; exact H
   clear H
   have H := H1
   clear H1
   by_cases c8 : a0_2 < (-1)
   ·rw [if_pos c8] at H
    have c8b0 : decide (a0_2 < (-1)) = true := decide_eq_true c8
    clear c8
    (first | rw [c8b0] | (simp only [qqs, qqu]; rw [c8b0]) | skip)
    have H' := Aside0.mk H
    clear H
    obtain ⟨Q8, Q9, hcz9_2, hcz9_3, hcz9_4, hcz9_5⟩ := bcells6 Q0.out
    obtain ⟨Qa, Qb, hfz9_2, hfz9_3, hfz9_4, hfz9_5⟩ := bfrozen6 Q0.out
    go_wp2
    go_meet
    case rel => exact ⟨_, (true), (by first | rfl | (simp; done) | (simp [*]; done)), H', ⟨by first | omega | exact Nat.le_refl _⟩, ⟨by (with_reducible repeat (first | refine qqd ?_ _ | refine qqf ?_ | refine qqe ?_ _)); exact Q0.out⟩, ⟨by repeat (first | (with_reducible first | exact HB.out | apply qqc | apply qqa | apply qqb | refine qqg ?_ GE179.out) | exact HB.out)⟩⟩
   ·rw [if_neg c8] at H
    have c8b0 : decide (a0_2 < (-1)) = false := decide_eq_false c8
    clear c8
    (first | rw [c8b0] | (simp only [qqs, qqu]; rw [c8b0]) | skip)
    by_cases c10 : a0_2 > 7
    ·rw [if_pos c10] at H
     have c10b0 : decide (7 < a0_2) = true := decide_eq_true c10
     clear c10
     have H' := Aside0.mk H
     clear H
     obtain ⟨hcz11_0, hcz11_1, hcz11_2, hcz11_3, hcz11_4, hcz11_5⟩ := bcells6 Q0.out
     obtain ⟨hfz11_0, hfz11_1, hfz11_2, hfz11_3, hfz11_4, hfz11_5⟩ := bfrozen6 Q0.out
     go_wp2
     go_meet
     case rel => exact ⟨_, (true), (by first | rfl | (simp; done) | (simp [*]; done)), H', ⟨by first | omega | exact Nat.le_refl _⟩, ⟨by (with_reducible repeat (first | refine qqd ?_ _ | refine qqf ?_ | refine qqe ?_ _)); exact Q0.out⟩, ⟨by repeat (first | (with_reducible first | exact HB.out | apply qqc | apply qqa | apply qqb | refine qqg ?_ GE179.out) | exact HB.out)⟩⟩
    ·rw [if_neg c10] at H
     have c10b0 : decide (7 < a0_2) = false := decide_eq_false c10
     clear c10
     by_cases c12 : a0_3 < 0
     ·rw [if_pos c12] at H
      have c12b0 : decide (a0_3 < 0) = true := decide_eq_true c12
      clear c12
      have H' := Aside0.mk H
      clear H
      obtain ⟨hcz13_0, hcz13_1, hcz13_2, hcz13_3, hcz13_4, hcz13_5⟩ := bcells6 Q0.out
      obtain ⟨hfz13_0, hfz13_1, hfz13_2, hfz13_3, hfz13_4, hfz13_5⟩ := bfrozen6 Q0.out
      go_wp2
      go_meet
      case rel => exact ⟨_, (true), (by first | rfl | (simp; done) | (simp [*]; done)), H', ⟨by first | omega | exact Nat.le_refl _⟩, ⟨by (with_reducible repeat (first | refine qqd ?_ _ | refine qqf ?_ | refine qqe ?_ _)); exact Q0.out⟩, ⟨by repeat (first | (with_reducible first | exact HB.out | apply qqc | apply qqa | apply qqb | refine qqg ?_ GE179.out) | exact HB.out)⟩⟩
     ·rw [if_neg c12] at H
      have c12b0 : decide (a0_3 < 0) = false := decide_eq_false c12
      clear c12
      have H' := Aside0.mk H
      clear H
      obtain ⟨hcz14_0, hcz14_1, hcz14_2, hcz14_3, hcz14_4, hcz14_5⟩ := bcells6 Q0.out
      obtain ⟨hfz14_0, hfz14_1, hfz14_2, hfz14_3, hfz14_4, hfz14_5⟩ := bfrozen6 Q0.out
      go_wp2
      go_meet
      case rel => exact ⟨_, (decide (a0_3 > 255)), (by first | rfl | (simp; done) | (simp [*]; done)), H', ⟨by first | omega | exact Nat.le_refl _⟩, ⟨by (with_reducible repeat (first | refine qqd ?_ _ | refine qqf ?_ | refine qqe ?_ _)); exact Q0.out⟩, ⟨by repeat (first | (with_reducible first | exact HB.out | apply qqc | apply qqa | apply qqb | refine qqg ?_ GE179.out) | exact HB.out)⟩⟩
  ·replace c7 := Bool.eq_false_iff.mpr c7
   subst c7
   have H1 : (wayfinderref04_May.j0 k true a0_0 a0_1 a0_2 a0_3 a0_4 a0_5) = some r := by rw [if_neg (show ¬ (false = true) by decide)] at H; exact H
   clear H
   have H := H1
   clear H1
   have H' := Aside0.mk H
   clear H
   go_wp2
   go_meet
   case rel => exact ⟨_, (true), (by first | rfl | (simp; done) | (simp [*]; done)), H', ⟨by first | omega | exact Nat.le_refl _⟩, ⟨by (with_reducible repeat (first | refine qqd ?_ _ | refine qqf ?_ | refine qqe ?_ _)); exact Q0.out⟩, ⟨by repeat (first | (with_reducible first | exact HB.out | apply qqc | apply qqa | apply qqb | refine qqg ?_ GE179.out) | exact HB.out)⟩⟩
 case rest =>
  clear HC3
  try clear c1
  try clear p2
  try clear c4
  try clear c7
  try clear c8
  try clear c8b0
  try clear c10
  try clear c10b0
  try clear c12
  try clear c12b0
  try clear hcz11_0
  try clear hcz11_1
  try clear hcz11_2
  try clear hcz11_3
  try clear hcz11_4
  try clear hcz11_5
  try clear hcz13_0
  try clear hcz13_1
  try clear hcz13_2
  try clear hcz13_3
  try clear hcz13_4
  try clear hcz13_5
  try clear hcz14_0
  try clear hcz14_1
  try clear hcz14_2
  try clear hcz14_3
  try clear hcz14_4
  try clear hcz14_5
  try clear Q4
  try clear Q5
  try clear hcz5_2
  try clear hcz5_3
  try clear hcz5_4
  try clear hcz5_5
  try clear Q8
  try clear Q9
  try clear hcz9_2
  try clear hcz9_3
  try clear hcz9_4
  try clear hcz9_5
  try clear hfz11_0
  try clear hfz11_1
  try clear hfz11_2
  try clear hfz11_3
  try clear hfz11_4
  try clear hfz11_5
  try clear hfz13_0
  try clear hfz13_1
  try clear hfz13_2
  try clear hfz13_3
  try clear hfz13_4
  try clear hfz13_5
  try clear hfz14_0
  try clear hfz14_1
  try clear hfz14_2
  try clear hfz14_3
  try clear hfz14_4
  try clear hfz14_5
  try clear Q6
  try clear Q7
  try clear hfz5_2
  try clear hfz5_3
  try clear hfz5_4
  try clear hfz5_5
  try clear Qa
  try clear Qb
  try clear hfz9_2
  try clear hfz9_3
  try clear hfz9_4
  try clear hfz9_5
  obtain ⟨kq, x28_2, rfl, HA, HJ2, Q0, HB⟩ := hcut
  cases kq with
  | zero => exact absurd HA.out (by simp [wayfinderref04_May.j0])
  | succ kj2 =>
   have H := HA.out
   clear HA
   simp only [wayfinderref04_May.j0] at H
   by_cases c15 : x28_2 = true
   ·subst c15
    have H1 : (some false) = some r := by rw [if_pos rfl] at H; exact H
    clear H
    have H := H1
    clear H1
    obtain rfl := Option.some.inj H
    go_wp2
    go_ret
    exact ⟨by first | rfl | (simp [qqk, qqj] <;> rfl) | (simp [*, qqk, qqj] <;> rfl), by repeat (first | (with_reducible first | exact HB.out | apply qqc | apply qqa | apply qqb | refine qqg ?_ GE179.out) | exact HB.out)⟩
   ·replace c15 := Bool.eq_false_iff.mpr c15
    subst c15
    have H1 : (if a0_4 = 0 then (some (a0_5 == 0)) else (if a0_4 = 1 then (if a0_5 ≥ 0 then (some (decide (a0_5 ≤ 7))) else (some false)) else (some false))) = some r := by rw [if_neg (show ¬ (false = true) by decide)] at H; exact H
    clear H
    have H := H1
    clear H1
    by_cases c16 : a0_4 = 0
    ·rw [if_pos c16] at H
     have c16b0 : (a0_4 == 0) = true := beq_iff_eq.mpr c16
     have c16b1 : (a0_4 != 0) = false := bne_eq_false_iff_eq.mpr c16
     clear c16
     obtain rfl := Option.some.inj H
     obtain ⟨hcz17_0, hcz17_1, _, _, _, _⟩ := bcells6 Q0.out
     obtain ⟨hfz17_0, hfz17_1, _, _, _, _⟩ := bfrozen6 Q0.out
     go_wp2
     go_ret
     exact ⟨by first | rfl | (simp [qqk, qqj] <;> rfl) | (simp [*, qqk, qqj] <;> rfl), by repeat (first | (with_reducible first | exact HB.out | apply qqc | apply qqa | apply qqb | refine qqg ?_ GE179.out) | exact HB.out)⟩
    ·rw [if_neg c16] at H
     have c16b0 : (a0_4 == 0) = false := beq_eq_false_iff_ne.mpr c16
     have c16b1 : (a0_4 != 0) = true := bne_iff_ne.mpr c16
     by_cases c18 : a0_4 = 1
     ·rw [if_pos c18] at H
      have c18b0 : (a0_4 == 1) = true := beq_iff_eq.mpr c18
      have c18b1 : (a0_4 != 1) = false := bne_eq_false_iff_eq.mpr c18
      clear c18
      by_cases c19 : a0_5 ≥ 0
      ·rw [if_pos c19] at H
       have c19b0 : decide (0 ≤ a0_5) = true := decide_eq_true c19
       clear c19
       obtain rfl := Option.some.inj H
       obtain ⟨_, _, _, _, _, _⟩ := bcells6 Q0.out
       obtain ⟨_, _, _, _, _, _⟩ := bfrozen6 Q0.out
       go_wp2
       go_ret
       exact ⟨by first | rfl | (simp [qqk, qqj] <;> rfl) | (simp [*, qqk, qqj] <;> rfl), by repeat (first | (with_reducible first | exact HB.out | apply qqc | apply qqa | apply qqb | refine qqg ?_ GE179.out) | exact HB.out)⟩
      ·rw [if_neg c19] at H
       have c19b0 : decide (0 ≤ a0_5) = false := decide_eq_false c19
       clear c19
       obtain rfl := Option.some.inj H
       obtain ⟨_, _, _, _, _, _⟩ := bcells6 Q0.out
       obtain ⟨_, _, _, _, _, _⟩ := bfrozen6 Q0.out
       go_wp2
       go_ret
       exact ⟨by first | rfl | (simp [qqk, qqj] <;> rfl) | (simp [*, qqk, qqj] <;> rfl), by repeat (first | (with_reducible first | exact HB.out | apply qqc | apply qqa | apply qqb | refine qqg ?_ GE179.out) | exact HB.out)⟩
     ·rw [if_neg c18] at H
      have c18b0 : (a0_4 == 1) = false := beq_eq_false_iff_ne.mpr c18
      have c18b1 : (a0_4 != 1) = true := bne_iff_ne.mpr c18
      obtain rfl := Option.some.inj H
      obtain ⟨_, _, _, _, _, _⟩ := bcells6 Q0.out
      obtain ⟨_, _, _, _, _, _⟩ := bfrozen6 Q0.out
      go_wp2
      go_ret
      exact ⟨by first | rfl | (simp [qqk, qqj] <;> rfl) | (simp [*, qqk, qqj] <;> rfl), by repeat (first | (with_reducible first | exact HB.out | apply qqc | apply qqa | apply qqb | refine qqg ?_ GE179.out) | exact HB.out)⟩
end Go.Proofs.YtpaoofkahhhjaaaDoor.All
