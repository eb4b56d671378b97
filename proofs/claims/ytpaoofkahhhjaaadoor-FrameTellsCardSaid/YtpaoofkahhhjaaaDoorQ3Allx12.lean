/- Contracts of Go functions that this seat comes to, each with a plain function that tells its answers; conditions: those that each contract names. Written by a program of this session (wip/print) over the print words. -/
import Derived.Test.YtpaoofkahhhjaaaDoorQ3Allx0
import Derived.Test.YtpaoofkahhhjaaaDoorQ3Allx10
namespace Go.Proofs.YtpaoofkahhhjaaaDoor.All
open Go.RowKit Go.Proofs.YtpaoofkahhhjaaaDoorW.PrintWords Go.Proofs.YtpaoofkahhhjaaaDoorW.PrintLast Go.Proofs.YtpaoofkahhhjaaaDoorW.PrintMore
attribute [local go_sem] max2_int min2_int max_two min_two max_three min_three max_four min_four
set_option linter.unusedVariables false
set_option linter.unusedSimpArgs false
def wayfinderref02_power.l0 : Nat → Int → Int → Int → Option (Int)
 | 0, _, _, _ => none
 | k + 1, x0, x3, x4 => if x4 < x0 then (wayfinderref02_power.l0 k x0 (wrap64 (x3 * 256)) (wrap64 (x4 + 1))) else (some x3)
def wayfinderref02_power.f (k : Nat) (a0 : Int) : Option (Int) := wayfinderref02_power.l0 k a0 1 0
theorem wayfinderref02_power.mono_l : ∀ k, (∀ y0 y1 y2, LeO (wayfinderref02_power.l0 k y0 y1 y2) (wayfinderref02_power.l0 (k + 1) y0 y1 y2))
 | 0 => fun _ _ _ r h => by simp [wayfinderref02_power.l0] at h
 | k + 1 => by
  have ih0 := wayfinderref02_power.mono_l k
  ·intro y0 y1 y2
   unfold wayfinderref02_power.l0
   repeat' first
   | (with_reducible exact ih0 _ _ _)
   | (with_reducible exact LeO.refl _)
   | (with_reducible exact LeO.none _)
   | (with_reducible refine LeO.ite ?_ ?_)
   | (with_reducible refine LeO.bind ?_ (fun _ => ?_))
   | exact ih0 _ _ _
   | exact LeO.none _
   | refine LeO.ite ?_ ?_
   | refine LeO.bind ?_ (fun _ => ?_)
theorem wayfinderref02_power.mono : ∀ a0 k, LeO (wayfinderref02_power.f k a0) (wayfinderref02_power.f (k + 1) a0) := by
 intro a0 k
 have ih0 := wayfinderref02_power.mono_l k
 unfold wayfinderref02_power.f
 repeat' first
   | (with_reducible exact ih0 _ _ _)
   | (with_reducible exact LeO.refl _)
   | (with_reducible exact LeO.none _)
   | (with_reducible refine LeO.ite ?_ ?_)
   | (with_reducible refine LeO.bind ?_ (fun _ => ?_))
   | exact ih0 _ _ _
   | exact LeO.none _
   | refine LeO.ite ?_ ?_
   | refine LeO.bind ?_ (fun _ => ?_)
set_option maxHeartbeats 8000000 in
set_option maxRecDepth 100000 in
theorem wayfinderref02_power.calls (k : Nat) (a0 : Int) (r : Int) (w : World) (h : wayfinderref02_power.f k a0 = some r) :
  Calls Tryd.prog 37 #[.int .i64 a0] w fun e w' => e = .returned (.int .i64 r) ∧ Drawn0 w w' := by
 have H : (wayfinderref02_power.l0 k a0 1 0) = some r := h
 clear h
 have H' := Aside0.mk H
 clear H
 go_enter Tryd.func37, Tryd.ntmps37
 go_wp2
 go_loopg [3, 4] k (fun kq v3 v4 w' => ∃ (x3_1 : Int) (x4_1 : Int), v3 = .int .i64 x3_1 ∧ v4 = .int .i64 x4_1 ∧ Aside0 (wayfinderref02_power.l0 kq a0 x3_1 x4_1 = some r) ∧ Aside0 (kq ≤ k) ∧ Drawn0 w w')
 case atStart => exact ⟨(1), (0), (by first | rfl | (simp; done) | (simp [*]; done)), (by first | rfl | (simp; done) | (simp [*]; done)), H', ⟨Nat.le_refl _⟩, by repeat (first | exact Drawn0.refl _ | apply Drawn0.step)⟩
 case round =>
  clear H'
  obtain ⟨x3_1, x4_1, rfl, rfl, HA, HK1, ⟨m1, rfl⟩⟩ := hrel
  cases gk with
  | zero => exact absurd HA.out (by simp [wayfinderref02_power.l0])
  | succ k1 =>
   have H := HA.out
   clear HA
   simp only [wayfinderref02_power.l0] at H
   by_cases c2 : x4_1 < a0
   ·rw [if_pos c2] at H
    have c2b0 : decide (x4_1 < a0) = true := decide_eq_true c2
    clear c2
    have H' := Aside0.mk H
    clear H
    go_wp2
    go_roundg k1
    case measure => have := HK1.out; omega
    case rel => exact ⟨(wrap64 (x3_1 * 256)), (wrap64 (x4_1 + 1)), (by first | rfl | (simp; done) | (simp [*]; done)), (by first | rfl | (simp; done) | (simp [*]; done)), H', ⟨by have := HK1.out; omega⟩, by repeat (first | exact Drawn0.refl _ | apply Drawn0.step)⟩
   ·rw [if_neg c2] at H
    have c2b0 : decide (x4_1 < a0) = false := decide_eq_false c2
    clear c2
    obtain rfl := Option.some.inj H
    go_wp2
    go_ret
    exact ⟨by first | rfl | (simp; done) | (simp [*]; done), by repeat (first | exact Drawn0.refl _ | apply Drawn0.step)⟩
mutual
def wayfinderref02_Put.j0 : Nat → Int → Int → Bool → Option (List Int × Int)
 | 0, _, _, _ => none
 | k + 1, x0, x1, x23 => if x23 = true then (some (([] : List Int), 1)) else (wayfinderref02_Put.l0 k x0 ([] : List Int) (wrap64 (x1 - 1)))
def wayfinderref02_Put.l0 : Nat → Int → List Int → Int → Option (List Int × Int)
 | 0, _, _, _ => none
 | k + 1, x0, x6, x7 => if x7 ≥ 0 then ((wayfinderref02_power.f k x7).bind fun Q8 => (if Q8 = 0 then (none) else (if x6.length < 140737488355328 then (wayfinderref02_Put.l0 k x0 (x6 ++ [(Int.tmod (wrap64 (Int.tdiv x0 Q8)) 256) % 256]) (wrap64 (x7 - 1))) else (none)))) else (some (x6, 0))
end
def wayfinderref02_Put.f (k : Nat) (a0 : Int) (a1 : Int) : Option (List Int × Int) := if a1 < 1 then (wayfinderref02_Put.j0 k a0 a1 true) else (if a1 > 4 then (wayfinderref02_Put.j0 k a0 a1 true) else (if a0 < 0 then (wayfinderref02_Put.j0 k a0 a1 true) else ((wayfinderref02_power.f k a1).bind fun t183 => (wayfinderref02_Put.j0 k a0 a1 (decide (a0 ≥ t183))))))
theorem wayfinderref02_Put.mono_l : ∀ k, (∀ y0 y1 y2, LeO (wayfinderref02_Put.j0 k y0 y1 y2) (wayfinderref02_Put.j0 (k + 1) y0 y1 y2)) ∧ (∀ y0 y1 y2, LeO (wayfinderref02_Put.l0 k y0 y1 y2) (wayfinderref02_Put.l0 (k + 1) y0 y1 y2))
 | 0 => ⟨fun _ _ _ r h => by simp [wayfinderref02_Put.j0] at h, fun _ _ _ r h => by simp [wayfinderref02_Put.l0] at h⟩
 | k + 1 => by
  obtain ⟨ih0, ih1⟩ := wayfinderref02_Put.mono_l k
  refine ⟨?_, ?_⟩
  ·intro y0 y1 y2
   unfold wayfinderref02_Put.j0
   repeat' first
   | (with_reducible exact ih0 _ _ _)
   | (with_reducible exact ih1 _ _ _)
   | (with_reducible exact wayfinderref02_power.mono _ _)
   | (with_reducible exact LeO.refl _)
   | (with_reducible exact LeO.none _)
   | (with_reducible refine LeO.ite ?_ ?_)
   | (with_reducible refine LeO.bind ?_ (fun _ => ?_))
   | exact ih0 _ _ _
   | exact ih1 _ _ _
   | exact wayfinderref02_power.mono _ _
   | exact LeO.none _
   | refine LeO.ite ?_ ?_
   | refine LeO.bind ?_ (fun _ => ?_)
  ·intro y0 y1 y2
   unfold wayfinderref02_Put.l0
   repeat' first
   | (with_reducible exact ih0 _ _ _)
   | (with_reducible exact ih1 _ _ _)
   | (with_reducible exact wayfinderref02_power.mono _ _)
   | (with_reducible exact LeO.refl _)
   | (with_reducible exact LeO.none _)
   | (with_reducible refine LeO.ite ?_ ?_)
   | (with_reducible refine LeO.bind ?_ (fun _ => ?_))
   | exact ih0 _ _ _
   | exact ih1 _ _ _
   | exact wayfinderref02_power.mono _ _
   | exact LeO.none _
   | refine LeO.ite ?_ ?_
   | refine LeO.bind ?_ (fun _ => ?_)
theorem wayfinderref02_Put.mono : ∀ a0 a1 k, LeO (wayfinderref02_Put.f k a0 a1) (wayfinderref02_Put.f (k + 1) a0 a1) := by
 intro a0 a1 k
 obtain ⟨ih0, ih1⟩ := wayfinderref02_Put.mono_l k
 unfold wayfinderref02_Put.f
 repeat' first
   | (with_reducible exact ih0 _ _ _)
   | (with_reducible exact ih1 _ _ _)
   | (with_reducible exact wayfinderref02_power.mono _ _)
   | (with_reducible exact LeO.refl _)
   | (with_reducible exact LeO.none _)
   | (with_reducible refine LeO.ite ?_ ?_)
   | (with_reducible refine LeO.bind ?_ (fun _ => ?_))
   | exact ih0 _ _ _
   | exact ih1 _ _ _
   | exact wayfinderref02_power.mono _ _
   | exact LeO.none _
   | refine LeO.ite ?_ ?_
   | refine LeO.bind ?_ (fun _ => ?_)
set_option maxHeartbeats 8000000 in
set_option maxRecDepth 100000 in
theorem wayfinderref02_Put.calls (k : Nat) (a0 : Int) (a1 : Int) (r1 : List Int) (r2 : Int) (w : World) (h : wayfinderref02_Put.f k a0 a1 = some (r1, r2)) :
  Calls Tryd.prog 18 #[.int .i64 a0, .int .i64 a1] w fun e w' => ∃ v0_ : Value, e = .returned (.tuple #[v0_, .int .i64 r2]) ∧ Kd.R (Kd.int .u8) 5 w' w.heap.size (fun _ => True) v0_ r1 ∧ Below w.heap.size w w' := by
 have HB := Aside0.mk (Below.refl w.heap.size w)
 have H : (if a1 < 1 then (wayfinderref02_Put.j0 k a0 a1 true) else (if a1 > 4 then (wayfinderref02_Put.j0 k a0 a1 true) else (if a0 < 0 then (wayfinderref02_Put.j0 k a0 a1 true) else ((wayfinderref02_power.f k a1).bind fun t183 => (wayfinderref02_Put.j0 k a0 a1 (decide (a0 ≥ t183))))))) = some (r1, r2) := h
 clear h
 have HC3 := Aside0.mk H
 clear H
 go_enter Tryd.func18, Tryd.ntmps18
 go_upto_region 1 with (fail)
 go_cut [23] (fun v23 wc => ∃ (kq : Nat) (x23_2 : Bool), v23 = .bool x23_2 ∧ Aside0 (wayfinderref02_Put.j0 kq a0 a1 x23_2 = some (r1, r2)) ∧ Aside0 (kq ≤ k) ∧ Aside0 (Below w.heap.size w wc))
 case first =>
  have H := HC3.out
  clear HC3
  by_cases c4 : a1 < 1
  ·rw [if_pos c4] at H
   have c4b0 : decide (a1 < 1) = true := decide_eq_true c4
   clear c4
   (first | rw [c4b0] | (simp only [qqs, qqu]; rw [c4b0]) | skip)
   have H' := Aside0.mk H
   clear H
   go_wp2
   go_meet
   case rel => exact ⟨_, (true), (by first | rfl | (simp; done) | (simp [*]; done)), H', ⟨by first | omega | exact Nat.le_refl _⟩, ⟨by repeat (first | (with_reducible first | exact HB.out | apply qqc | apply qqa | apply qqb) | exact HB.out)⟩⟩
  ·rw [if_neg c4] at H
   have c4b0 : decide (a1 < 1) = false := decide_eq_false c4
   clear c4
   (first | rw [c4b0] | (simp only [qqs, qqu]; rw [c4b0]) | skip)
   by_cases c5 : a1 > 4
   ·rw [if_pos c5] at H
    have c5b0 : decide (4 < a1) = true := decide_eq_true c5
    clear c5
    have H' := Aside0.mk H
    clear H
    go_wp2
    go_meet
    case rel => exact ⟨_, (true), (by first | rfl | (simp; done) | (simp [*]; done)), H', ⟨by first | omega | exact Nat.le_refl _⟩, ⟨by repeat (first | (with_reducible first | exact HB.out | apply qqc | apply qqa | apply qqb) | exact HB.out)⟩⟩
   ·rw [if_neg c5] at H
    have c5b0 : decide (4 < a1) = false := decide_eq_false c5
    clear c5
    by_cases c6 : a0 < 0
    ·rw [if_pos c6] at H
     have c6b0 : decide (a0 < 0) = true := decide_eq_true c6
     clear c6
     have H' := Aside0.mk H
     clear H
     go_wp2
     go_meet
     case rel => exact ⟨_, (true), (by first | rfl | (simp; done) | (simp [*]; done)), H', ⟨by first | omega | exact Nat.le_refl _⟩, ⟨by repeat (first | (with_reducible first | exact HB.out | apply qqc | apply qqa | apply qqb) | exact HB.out)⟩⟩
    ·rw [if_neg c6] at H
     have c6b0 : decide (a0 < 0) = false := decide_eq_false c6
     clear c6
     replace H := Option.bind_eq_some_iff.mp H
     obtain ⟨t183, A70, H⟩ := H
     replace H : (wayfinderref02_Put.j0 k a0 a1 (decide (a0 ≥ t183))) = some (r1, r2) := H
     have A7 := Aside0.mk A70
     clear A70
     have H' := Aside0.mk H
     clear H
     go_wp2_with (first | (go_at_call 37; (with_reducible refine (wayfinderref02_power.calls k a1 t183 _ A7.out).mono ?_); rintro e w' ⟨rfl, ⟨nd, rfl⟩⟩))
     go_meet
     case rel => exact ⟨_, (decide (a0 ≥ t183)), (by first | rfl | (simp; done) | (simp [*]; done)), H', ⟨by first | omega | exact Nat.le_refl _⟩, ⟨by repeat (first | (with_reducible first | exact HB.out | apply qqc | apply qqa | apply qqb) | exact HB.out)⟩⟩
 case rest =>
  clear HC3
  try clear c1
  try clear p2
  try clear c4
  try clear c4b0
  try clear c5
  try clear c5b0
  try clear c6
  try clear c6b0
  obtain ⟨kq, x23_2, rfl, HA, HJ2, HB⟩ := hcut
  cases kq with
  | zero => exact absurd HA.out (by simp [wayfinderref02_Put.j0])
  | succ kj2 =>
   have H := HA.out
   clear HA
   simp only [wayfinderref02_Put.j0] at H
   by_cases c8 : x23_2 = true
   ·subst c8
    have H1 : (some (([] : List Int), 1)) = some (r1, r2) := by rw [if_pos rfl] at H; exact H
    clear H
    have H := H1
    clear H1
    simp only [Option.some.injEq, Prod.mk.injEq] at H
    obtain ⟨rfl, rfl⟩ := H
    go_wp2
    go_ret2
    exact ⟨_, by first | rfl | (simp [qqk, qqj] <;> rfl) | (simp [*, qqk, qqj] <;> rfl), by first | exact Kd.R_nil _ _ _ _ _ | exact Kd.N_nil _ _ _ _ _ | exact Kd.V_nil _ _ _ _ _ | exact Kd.Q_nil _ _ _ _ _ | exact Kd.S_nil _ _ _ _ _, by repeat (first | (with_reducible first | exact HB.out | apply qqc | apply qqa | apply qqb) | exact HB.out)⟩
   ·replace c8 := Bool.eq_false_iff.mpr c8
    subst c8
    have H1 : (wayfinderref02_Put.l0 kj2 a0 ([] : List Int) (wrap64 (a1 - 1))) = some (r1, r2) := by rw [if_neg (show ¬ (false = true) by decide)] at H; exact H
    clear H
    have H := H1
    clear H1
    have H' := Aside0.mk H
    clear H
    go_wp2
    go_loopg [6, 7] kj2 (fun kq v6 v7 w' => ∃ (x6_2 : List Int) (Q9 : Int), v7 = .int .i64 Q9 ∧ Aside0 (wayfinderref02_Put.l0 kq a0 x6_2 Q9 = some (r1, r2)) ∧ Aside0 (kq ≤ kj2) ∧ Aside0 (Kd.R (Kd.int .u8) 5 w' w.heap.size (fun _ => True) v6 x6_2) ∧ Aside0 (Below w.heap.size w w'))
    case atStart => exact ⟨(([] : List Int)), (wrap64 (a1 - 1)), (by first | rfl | (simp; done) | (simp [*]; done)), H', ⟨Nat.le_refl _⟩, ⟨by first | exact Kd.R_nil _ _ _ _ _ | exact Kd.N_nil _ _ _ _ _ | exact Kd.V_nil _ _ _ _ _ | exact Kd.Q_nil _ _ _ _ _ | exact Kd.S_nil _ _ _ _ _⟩, ⟨by repeat (first | (with_reducible first | exact HB.out | apply qqc | apply qqa | apply qqb) | exact HB.out)⟩⟩
    case round =>
     clear H'
     try clear c1
     try clear p2
     try clear c4
     try clear c4b0
     try clear c5
     try clear c5b0
     try clear c6
     try clear c6b0
     try clear p6
     try clear c8
     try clear p2
     obtain ⟨x6_2, Q9, rfl, HA, HK2, HO_6, HB⟩ := hrel
     cases gk with
     | zero => exact absurd HA.out (by simp [wayfinderref02_Put.l0])
     | succ k2 =>
      have H := HA.out
      clear HA
      simp only [wayfinderref02_Put.l0] at H
      by_cases c9 : Q9 ≥ 0
      ·rw [if_pos c9] at H
       have c9b0 : decide (0 ≤ Q9) = true := decide_eq_true c9
       clear c9
       replace H := Option.bind_eq_some_iff.mp H
       obtain ⟨Q8, A100, H⟩ := H
       replace H : (if Q8 = 0 then (none) else (if x6_2.length < 140737488355328 then (wayfinderref02_Put.l0 k2 a0 (x6_2 ++ [(Int.tmod (wrap64 (Int.tdiv a0 Q8)) 256) % 256]) (wrap64 (Q9 - 1))) else (none))) = some (r1, r2) := H
       have A10 := Aside0.mk A100
       clear A100
       by_cases c11 : Q8 = 0
       ·rw [if_pos c11] at H
        exact absurd H (by simp)
       ·rw [if_neg c11] at H
        have c11b0 : (Q8 == 0) = false := beq_eq_false_iff_ne.mpr c11
        have c11b1 : (Q8 != 0) = true := bne_iff_ne.mpr c11
        by_cases c12 : x6_2.length < 140737488355328
        ·rw [if_pos c12] at H
         have LMc12 := Aside0.mk c12
         clear c12
         obtain ⟨y185, hy185⟩ : ∃ y_ : List Int, y_ = (x6_2 ++ [(Int.tmod (wrap64 (Int.tdiv a0 Q8)) 256) % 256]) := ⟨_, rfl⟩
         replace H : (wayfinderref02_Put.l0 k2 a0 y185 (wrap64 (Q9 - 1))) = some (r1, r2) := by first | (rw [hy185]; with_reducible exact H) | (have H2_ := (Option.bind_some _ _).symm.trans H; rw [hy185]; with_reducible exact H2_) | (have H2_ := (Option.bind_some _ _).symm.trans H; with_reducible exact H2_) | with_reducible exact H | (rw [hy185]; exact H) | exact H
         have Ny185 := Aside0.mk hy185
         clear hy185
         have H' := Aside0.mk H
         clear H
         go_wp2_with (first | ((with_reducible refine qqo (f := 37) rfl ?_); refine goesL_ (some 33) rfl rfl Tryd.func37 (by kernel_rfl) rfl #[.int .i64 Q9] rfl (by (try simp only [List.map_toArray, List.map_cons, List.map_nil]); first | done | rfl | (simp only [List.length_drop, List.length_take]; rfl)) ?_; (with_reducible refine (wayfinderref02_power.calls k2 Q9 Q8 _ A10.out).mono ?_); rintro e w' ⟨rfl, ⟨nd, rfl⟩⟩; refine ⟨_, rfl, ?_⟩) | ((with_reducible refine gate_builtin (b := .append) (xs := #[.tmp 30, .tmp 37]) rfl ?_); at_builtin; refine Kd.R_append (Kd.int .u8) (w0 := w) w.heap.size rfl (.tmp 30) (.tmp 37) 31 5 (.int .u8 0) 1 rfl Tryd.underlying31 info5 rfl (by decide) (by omega) u6 x6_2 ((Int.tmod (wrap64 (Int.tdiv a0 Q8)) 256) % 256) [.int .u8 ((Int.tmod (wrap64 (Int.tdiv a0 Q8)) 256) % 256)] (fun _ => True) (fun _ => False) rfl rfl ?aP (fun _ hk => hk.elim) ?aF ?aO ?aB ?aS ?aL ?_; (case aP => exact rfl); (case aB => exact (by repeat (first | (with_reducible first | exact HB.out | apply qqc | apply qqa | apply qqb) | exact HB.out))); (case aF => exact (fun _ _ => trivial)); (case aO => exact (by (with_reducible repeat (first | apply Kd.R_alloc | apply Kd.R_drewN | apply Kd.R_drew)); exact HO_6.out)); (case aS => exact (qqt (by repeat (first | (with_reducible first | exact HB.out | apply qqc | apply qqa | apply qqb) | exact HB.out)))); (case aL => have := LMc12.out; omega); intro v186 w13 ho hb hg hat; rw [← Ny185.out] at ho; have n0_ := Aside0.mk (hb); have n1_ := Aside0.mk (ho); clear HB; clear HO_6; have HB := n0_; have HO187 := n1_; clear n0_ n1_; clear ho hb hg hat))
         go_roundg k2
         case measure => have := HJ2.out; have := HK2.out; omega
         case rel => exact ⟨(y185), (wrap64 (Q9 - 1)), (by first | rfl | (simp; done) | (simp [*]; done)), H', ⟨by have := HJ2.out; have := HK2.out; omega⟩, ⟨by (with_reducible repeat (first | apply Kd.R_alloc | apply Kd.R_drewN | apply Kd.R_drew)); exact HO187.out⟩, ⟨by repeat (first | (with_reducible first | exact HB.out | apply qqc | apply qqa | apply qqb) | exact HB.out)⟩⟩
        ·rw [if_neg c12] at H
         exact absurd H (by simp)
      ·rw [if_neg c9] at H
       have c9b0 : decide (0 ≤ Q9) = false := decide_eq_false c9
       clear c9
       simp only [Option.some.injEq, Prod.mk.injEq] at H
       obtain ⟨rfl, rfl⟩ := H
       go_wp2
       go_ret2
       exact ⟨_, by first | rfl | (simp [qqk, qqj] <;> rfl) | (simp [*, qqk, qqj] <;> rfl), by (with_reducible repeat (first | apply Kd.R_alloc | apply Kd.R_drewN | apply Kd.R_drew)); exact HO_6.out, by repeat (first | (with_reducible first | exact HB.out | apply qqc | apply qqa | apply qqb) | exact HB.out)⟩
def wayfinderref02_PutAll.l0 : Nat → List Int → List Int → List Int → Int → Option (List Int × Int)
 | 0, _, _, _, _ => none
 | k + 1, x0, x1, x6, x7 => if x7 < (x0.length : Int) then (if 0 ≤ x7 then (if x7 < (x1.length : Int) then ((wayfinderref02_Put.f k (rd x0 x7) (rd x1 x7)).bind fun bt190 => (if bt190.2 = 0 then (if x6.length + bt190.1.length < 140737488355328 then (wayfinderref02_PutAll.l0 k x0 x1 (x6 ++ bt190.1) (wrap64 (x7 + 1))) else (none)) else (some (([] : List Int), bt190.2)))) else (none)) else (none)) else (some (x6, 0))
def wayfinderref02_PutAll.f (k : Nat) (l0 : List Int) (l1 : List Int) : Option (List Int × Int) := if (l0.length : Int) = (l1.length : Int) then (wayfinderref02_PutAll.l0 k l0 l1 ([] : List Int) 0) else (some (([] : List Int), 1))
theorem wayfinderref02_PutAll.mono_l : ∀ k, (∀ y0 y1 y2 y3, LeO (wayfinderref02_PutAll.l0 k y0 y1 y2 y3) (wayfinderref02_PutAll.l0 (k + 1) y0 y1 y2 y3))
 | 0 => fun _ _ _ _ r h => by simp [wayfinderref02_PutAll.l0] at h
 | k + 1 => by
  have ih0 := wayfinderref02_PutAll.mono_l k
  ·intro y0 y1 y2 y3
   unfold wayfinderref02_PutAll.l0
   repeat' first
   | (with_reducible exact ih0 _ _ _ _)
   | (with_reducible exact wayfinderref02_Put.mono _ _ _)
   | (with_reducible exact LeO.refl _)
   | (with_reducible exact LeO.none _)
   | (with_reducible refine LeO.ite ?_ ?_)
   | (with_reducible refine LeO.bind ?_ (fun _ => ?_))
   | exact ih0 _ _ _ _
   | exact wayfinderref02_Put.mono _ _ _
   | exact LeO.none _
   | refine LeO.ite ?_ ?_
   | refine LeO.bind ?_ (fun _ => ?_)
theorem wayfinderref02_PutAll.mono : ∀ a0 a1 k, LeO (wayfinderref02_PutAll.f k a0 a1) (wayfinderref02_PutAll.f (k + 1) a0 a1) := by
 intro a0 a1 k
 have ih0 := wayfinderref02_PutAll.mono_l k
 unfold wayfinderref02_PutAll.f
 repeat' first
   | (with_reducible exact ih0 _ _ _ _)
   | (with_reducible exact wayfinderref02_Put.mono _ _ _)
   | (with_reducible exact LeO.refl _)
   | (with_reducible exact LeO.none _)
   | (with_reducible refine LeO.ite ?_ ?_)
   | (with_reducible refine LeO.bind ?_ (fun _ => ?_))
   | exact ih0 _ _ _ _
   | exact wayfinderref02_Put.mono _ _ _
   | exact LeO.none _
   | refine LeO.ite ?_ ?_
   | refine LeO.bind ?_ (fun _ => ?_)
def wayfinderref02_PutAll.T7 : Bool × List (List Nat × List Nat) := (true, [([], []), ([], []), ([0, 1], [0, 1]), ([2], [2]), ([], []), ([], []), ([4, 5], [4, 5]), ([6], [6]), ([3, 7], [3, 7]), ([8], [8]), ([9], [9]), ([9], [9]), ([10, 8, 0, 1, 2, 3, 4, 5, 6, 7, 8, 9, 10], [10]), ([11, 12, 0, 1, 2, 3, 4, 5, 6, 7, 8, 9, 10, 11, 12], [11])])
def wayfinderref02_PutAll.B7 : List Nat := [0, 0, 3, 7, 0, 0, 48, 112, 255, 511, 1023, 1023, 2047, 8191]
theorem wayfinderref02_PutAll.tab7 : rtab .any (opsOf Tryd.f35 7) = wayfinderref02_PutAll.T7 := by kernel_rfl
theorem wayfinderref02_PutAll.bits7 : waitsOk wayfinderref02_PutAll.T7.2 wayfinderref02_PutAll.B7 = true := by kernel_rfl
set_option maxHeartbeats 8000000 in
set_option maxRecDepth 100000 in
theorem wayfinderref02_PutAll.calls (k : Nat) (A0 : Option Addr) (c0 : Nat) (l0 : List Int) (A1 : Option Addr) (c1 : Nat) (l1 : List Int) (r1 : List Int) (r2 : Int) (w : World) (hr0 : Kd.C (Kd.int .i64) w A0 l0.length l0) (hc0 : l0.length ≤ c0) (hr1 : Kd.C (Kd.int .i64) w A1 l1.length l1) (hc1 : l1.length ≤ c1) (h : wayfinderref02_PutAll.f k l0 l1 = some (r1, r2)) :
  Calls Tryd.prog 35 #[.slice A0 l0.length c0, .slice A1 l1.length c1] w fun e w' => ∃ v0_ : Value, e = .returned (.tuple #[v0_, .int .i64 r2]) ∧ Kd.R (Kd.int .u8) 5 w' w.heap.size (fun _ => True) v0_ r1 ∧ Below w.heap.size w w' := by
 have HR0 := Aside0.mk hr0
 have HC0 := Aside0.mk hc0
 clear hr0 hc0
 have HR1 := Aside0.mk hr1
 have HC1 := Aside0.mk hc1
 clear hr1 hc1
 have HB := Aside0.mk (Below.refl w.heap.size w)
 have H : (if (l0.length : Int) = (l1.length : Int) then (wayfinderref02_PutAll.l0 k l0 l1 ([] : List Int) 0) else (some (([] : List Int), 1))) = some (r1, r2) := h
 clear h
 by_cases c3 : (l0.length : Int) = (l1.length : Int)
 ·rw [if_pos c3] at H
  have c3b0 : ((l0.length : Int) == (l1.length : Int)) = true := beq_iff_eq.mpr c3
  have c3b1 : ((l0.length : Int) != (l1.length : Int)) = false := bne_eq_false_iff_eq.mpr c3
  have c3b2 : (l0.length == l1.length) = true := by first | simpa using c3 | (simp at c3 ⊢; omega)
  clear c3
  have H' := Aside0.mk H
  clear H
  go_enter Tryd.func35, Tryd.ntmps35
  go_wp2
  go_loopg [6, 7] k (fun kq v6 v7 w' => ∃ (x6_1 : List Int) (Q0 : Int), v7 = .int .i64 Q0 ∧ Aside0 (wayfinderref02_PutAll.l0 kq l0 l1 x6_1 Q0 = some (r1, r2)) ∧ Aside0 (kq ≤ k) ∧ Aside0 (Kd.R (Kd.int .u8) 5 w' w.heap.size (fun _ => True) v6 x6_1) ∧ Aside0 (Below w.heap.size w w'))
  case atStart => exact ⟨(([] : List Int)), (0), (by first | rfl | (simp; done) | (simp [*]; done)), H', ⟨Nat.le_refl _⟩, ⟨by first | exact Kd.R_nil _ _ _ _ _ | exact Kd.N_nil _ _ _ _ _ | exact Kd.V_nil _ _ _ _ _ | exact Kd.Q_nil _ _ _ _ _ | exact Kd.S_nil _ _ _ _ _⟩, ⟨by repeat (first | (with_reducible first | exact HB.out | apply qqc | apply qqa | apply qqb) | exact HB.out)⟩⟩
  case round =>
   clear H'
   try clear c1
   try clear p2
   try clear c3
   try clear c3b0
   try clear c3b1
   try clear c3b2
   obtain ⟨x6_1, Q0, rfl, HA, HK1, HO_6, HB⟩ := hrel
   cases gk with
   | zero => exact absurd HA.out (by simp [wayfinderref02_PutAll.l0])
   | succ k1 =>
    have H := HA.out
    clear HA
    simp only [wayfinderref02_PutAll.l0] at H
    by_cases c4 : Q0 < (l0.length : Int)
    ·rw [if_pos c4] at H
     have c4b0 : decide (Q0 < (l0.length : Int)) = true := decide_eq_true c4
     clear c4
     by_cases c5 : 0 ≤ Q0
     ·rw [if_pos c5] at H
      have c5b0 : decide (0 ≤ Q0) = true := decide_eq_true c5
      clear c5
      by_cases c6 : Q0 < (l1.length : Int)
      ·rw [if_pos c6] at H
       have c6b0 : decide (Q0 < (l1.length : Int)) = true := decide_eq_true c6
       clear c6
       replace H := Option.bind_eq_some_iff.mp H
       obtain ⟨⟨t190, t191⟩, A70, H⟩ := H
       replace H : (if t191 = 0 then (if x6_1.length + t190.length < 140737488355328 then (wayfinderref02_PutAll.l0 k1 l0 l1 (x6_1 ++ t190) (wrap64 (Q0 + 1))) else (none)) else (some (([] : List Int), t191))) = some (r1, r2) := H
       have A7 := Aside0.mk A70
       clear A70
       by_cases c8 : t191 = 0
       ·rw [if_pos c8] at H
        have c8b0 : (t191 == 0) = true := beq_iff_eq.mpr c8
        have c8b1 : (t191 != 0) = false := bne_eq_false_iff_eq.mpr c8
        clear c8
        by_cases c9 : x6_1.length + t190.length < 140737488355328
        ·rw [if_pos c9] at H
         have LMc9 := Aside0.mk c9
         clear c9
         obtain ⟨y194, hy194⟩ : ∃ y_ : List Int, y_ = (x6_1 ++ t190) := ⟨_, rfl⟩
         replace H : (wayfinderref02_PutAll.l0 k1 l0 l1 y194 (wrap64 (Q0 + 1))) = some (r1, r2) := by first | (rw [hy194]; with_reducible exact H) | (have H2_ := (Option.bind_some _ _).symm.trans H; rw [hy194]; with_reducible exact H2_) | (have H2_ := (Option.bind_some _ _).symm.trans H; with_reducible exact H2_) | with_reducible exact H | (rw [hy194]; exact H) | exact H
         have Ny194 := Aside0.mk hy194
         clear hy194
         have H' := Aside0.mk H
         clear H
         try go_wp2
         replace HO_6 := Aside0.mk (Kd.R_drew HO_6.out)
         replace HB := Aside0.mk (qqb HB.out)
         have p188 : 0 ≤ (Q0 : Int) := of_decide_eq_true (by first | (with_reducible assumption) | assumption)
         have q188 : Q0 < (l0.length : Int) := of_decide_eq_true (by first | (with_reducible assumption) | assumption)
         obtain ⟨ad188, e188, Q1⟩ := Kd.at_int HR0.out Q0 p188 q188
         have Q5 := Q1
         cases e188
         replace Q1 := (HB.out.cell (World.block_lt_of_cell? w _ Q1)).trans Q1
         replace p188 := eq_true p188
         replace q188 := eq_true q188
         have p189 : 0 ≤ (Q0 : Int) := of_decide_eq_true (by first | (with_reducible assumption) | assumption)
         have q189 : Q0 < (l1.length : Int) := of_decide_eq_true (by first | (with_reducible assumption) | assumption)
         obtain ⟨ad189, e189, Q2⟩ := Kd.at_int HR1.out Q0 p189 q189
         have Q6 := Q2
         cases e189
         replace Q2 := (HB.out.cell (World.block_lt_of_cell? w _ Q2)).trans Q2
         replace p189 := eq_true p189
         replace q189 := eq_true q189
         refine start_ (n := 14) (S := fun w' => w'.cell? (ad188.add (Q0).toNat) = some (.int .i64 (rd l0 Q0)) ∧ w'.cell? (ad189.add (Q0).toNat) = some (.int .i64 (rd l1 Q0))) (ds := []) #[false, false, false, false, false, false, false, false, false, false, false, false, false, false] (by kernel_rfl) rfl rfl ⟨((HB.out.cell (World.block_lt_of_cell? w _ Q5)).trans Q5), ((HB.out.cell (World.block_lt_of_cell? w _ Q6)).trans Q6)⟩ (fun hHeld => ?_); refine with_tabW wayfinderref02_PutAll.tab7 wayfinderref02_PutAll.bits7 (fun HT_ HW_ => ?_)
         generalize wr.drew = w10 at HO_6 HB Q1 Q2 hHeld ⊢
         refine qqy (i := 0) (N := some 22) (v := ?_) (a' := ?_) #[true, false, false, false, false, false, false, false, false, false, false, false, false, false] rfl rfl (qqp HT_.out (by kernel_rfl)) (fun _ _ _ h => h) (Or.inl ⟨by rfl, ?_⟩) ?_ ?_
         rotate_left
         ·intro w'
          go_simp
          with_reducible rfl
         rotate_left
         ·simp only [Act.put, qsA, qsB, qsC, qqs, qqu]
          rfl
         refine qqy (i := 1) (N := some 23) (v := ?_) (a' := ?_) #[true, true, false, false, false, false, false, false, false, false, false, false, false, false] rfl rfl (qqp HT_.out (by kernel_rfl)) (fun _ _ _ h => h) (Or.inl ⟨by rfl, ?_⟩) ?_ ?_
         rotate_left
         ·intro w'
          go_simp
          with_reducible rfl
         rotate_left
         ·simp only [Act.put, qsA, qsB, qsC, qqs, qqu]
          rfl
         refine qqy (i := 2) (N := some 24) (v := ?_) (a' := ?_) #[true, true, true, false, false, false, false, false, false, false, false, false, false, false] rfl rfl (qqp HT_.out (by kernel_rfl)) (fun _ _ _ h => h) (Or.inl ⟨by rfl, ?_⟩) ?_ ?_
         rotate_left
         ·intro w'
          go_simp
          with_reducible rfl
         rotate_left
         ·simp only [Act.put, qsA, qsB, qsC, qqs, qqu]
          rfl
         refine qqy (i := 4) (N := some 26) (v := ?_) (a' := ?_) #[true, true, true, false, true, false, false, false, false, false, false, false, false, false] rfl rfl (qqp HT_.out (by kernel_rfl)) (fun _ _ _ h => h) (Or.inl ⟨by rfl, ?_⟩) ?_ ?_
         rotate_left
         ·intro w'
          go_simp
          with_reducible rfl
         rotate_left
         ·simp only [Act.put, qsA, qsB, qsC, qqs, qqu]
          rfl
         refine qqy (i := 5) (N := some 27) (v := ?_) (a' := ?_) #[true, true, true, false, true, true, false, false, false, false, false, false, false, false] rfl rfl (qqp HT_.out (by kernel_rfl)) (fun _ _ _ h => h) (Or.inl ⟨by rfl, ?_⟩) ?_ ?_
         rotate_left
         ·intro w'
          go_simp
          with_reducible rfl
         rotate_left
         ·simp only [Act.put, qsA, qsB, qsC, qqs, qqu]
          rfl
         refine qqy (i := 6) (N := some 28) (v := ?_) (a' := ?_) #[true, true, true, false, true, true, true, false, false, false, false, false, false, false] rfl rfl (qqp HT_.out (by kernel_rfl)) (fun _ _ _ h => h) (Or.inl ⟨by rfl, ?_⟩) ?_ ?_
         rotate_left
         ·intro w'
          go_simp
          with_reducible rfl
         rotate_left
         ·simp only [Act.put, qsA, qsB, qsC, qqs, qqu]
          rfl
         refine take_ (i := 3) (N := some 25) (v := ?_) (a' := ?_) #[true, true, true, true, true, true, true, false, false, false, false, false, false, false] rfl rfl (take_ofW HT_.out HW_.out (by kernel_rfl)) (fun _ _ _ h => h) (Or.inl ⟨by rfl, ?_⟩) hHeld ?_ ?_
         rotate_left
         ·rintro w' ⟨s0, s1⟩
          go_simp
          with_reducible rfl
         rotate_left
         ·simp only [Act.put, qsA, qsB, qsC, qqs, qqu]
          rfl
         refine take_ (i := 7) (N := some 29) (v := ?_) (a' := ?_) #[true, true, true, true, true, true, true, true, false, false, false, false, false, false] rfl rfl (take_ofW HT_.out HW_.out (by kernel_rfl)) (fun _ _ _ h => h) (Or.inl ⟨by rfl, ?_⟩) hHeld ?_ ?_
         rotate_left
         ·rintro w' ⟨s0, s1⟩
          go_simp
          with_reducible rfl
         rotate_left
         ·simp only [Act.put, qsA, qsB, qsC, qqs, qqu]
          rfl
         refine one_ (i := 8) (N := some 30) #[true, true, true, true, true, true, true, true, true, false, false, false, false, false] rfl rfl (one_of HT_.out (by kernel_rfl)) (by decide) (fun K hK => ?_)
         refine goes_ Tryd.func18 (by kernel_rfl) rfl #[.int .i64 (rd l0 Q0), .int .i64 (rd l1 Q0)] (by rfl) rfl rfl (by (try simp only [List.map_toArray, List.map_cons, List.map_nil]); first | done | rfl | (simp only [List.length_drop, List.length_take]; rfl)) ?_
         with_reducible refine (wayfinderref02_Put.calls k1 (rd l0 Q0) (rd l1 Q0) t190 t191 _ A7.out).mono ?_
         rintro e w11 ⟨v192, rfl, ho0, hb⟩
         refine ⟨_, rfl, ?_⟩
         have n0_ := Aside0.mk (Kd.R_elder' (by (with_reducible repeat (first | apply Kd.R_alloc | apply Kd.R_drewN | apply Kd.R_drew)); exact HO_6.out) (Kd.R_base ho0) hb)
         have n1_ := Aside0.mk (Kd.R_lower (Kd.R_new' ho0 (Kd.R_lt (by (with_reducible repeat (first | apply Kd.R_alloc | apply Kd.R_drewN | apply Kd.R_drew)); exact HO_6.out))) (qqt (by repeat (first | (with_reducible first | exact HB.out | apply qqc | apply qqa | apply qqb) | exact HB.out))))
         have n2_ := bst HB hb
         clear HO_6
         clear HB
         have HO_6 := n0_
         have Qa := n1_
         have HB := n2_
         clear n0_ n1_ n2_
         (try clear hb)
         (try clear hb2)
         (try clear hk)
         (try clear hi)
         (try clear ho0)
         refine hK.out _ _ ⟨((HB.out.cell (World.block_lt_of_cell? w _ Q5)).trans Q5), ((HB.out.cell (World.block_lt_of_cell? w _ Q6)).trans Q6)⟩ (fun hHeld => ?_)
         clear hK K
         refine norm_ (a' := ?_) ?_ ?_
         rotate_left
         ·show Act.put _ (some 30) _ = _
          simp only [Act.put, qsA, qsB, qsC, qqs, qqu]
          rfl
         refine qqy (i := 9) (N := some 21) (v := ?_) (a' := ?_) #[true, true, true, true, true, true, true, true, true, true, false, false, false, false] rfl rfl (qqp HT_.out (by kernel_rfl)) (fun _ _ _ h => h) (Or.inl ⟨by rfl, ?_⟩) ?_ ?_
         rotate_left
         ·intro w'
          go_simp
          with_reducible rfl
         rotate_left
         ·simp only [Act.put, qsA, qsB, qsC, qqs, qqu]
          rfl
         refine qqy (i := 10) (N := some 31) (v := ?_) (a' := ?_) #[true, true, true, true, true, true, true, true, true, true, true, false, false, false] rfl rfl (qqp HT_.out (by kernel_rfl)) (fun _ _ _ h => h) (Or.inl ⟨by rfl, ?_⟩) ?_ ?_
         rotate_left
         ·intro w'
          go_simp
          with_reducible rfl
         rotate_left
         ·simp only [Act.put, qsA, qsB, qsC, qqs, qqu]
          rfl
         refine qqy (i := 11) (N := some 32) (v := ?_) (a' := ?_) #[true, true, true, true, true, true, true, true, true, true, true, true, false, false] rfl rfl (qqp HT_.out (by kernel_rfl)) (fun _ _ _ h => h) (Or.inl ⟨by rfl, ?_⟩) ?_ ?_
         rotate_left
         ·intro w'
          go_simp
          with_reducible rfl
         rotate_left
         ·simp only [Act.put, qsA, qsB, qsC, qqs, qqu]
          rfl
         refine qqy (i := 12) (N := some 8) (v := ?_) (a' := ?_) #[true, true, true, true, true, true, true, true, true, true, true, true, true, false] rfl rfl (qqp HT_.out (by kernel_rfl)) (fun _ _ _ h => h) (Or.inl ⟨by rfl, ?_⟩) ?_ ?_
         rotate_left
         ·intro w'
          go_simp
          with_reducible rfl
         rotate_left
         ·simp only [Act.put, qsA, qsB, qsC, qqs, qqu]
          rfl
         refine qqy (i := 13) (N := some 9) (v := ?_) (a' := ?_) #[true, true, true, true, true, true, true, true, true, true, true, true, true, true] rfl rfl (qqp HT_.out (by kernel_rfl)) (fun _ _ _ h => h) (Or.inl ⟨by rfl, ?_⟩) ?_ ?_
         rotate_left
         ·intro w'
          go_simp
          with_reducible rfl
         rotate_left
         ·simp only [Act.put, qsA, qsB, qsC, qqs, qqu]
          rfl
         refine done_ (done_of HT_.out (by kernel_rfl)) ?_
         obtain ⟨Ao13, co13, eo13⟩ := Kd.R_slice Qa.out
         subst eo13
         try go_wp2_with (first | ((with_reducible refine gate_builtin (b := .append) (xs := #[.tmp 36, .tmp 37]) rfl ?_); at_builtin; refine Kd.R_append_rows (Kd.int .u8) (w0 := w) w.heap.size rfl (.tmp 36) (.tmp 37) 31 5 (.int .u8 0) 1 rfl Tryd.underlying31 info5 rfl (by decide) (by omega) u6 x6_1 t190 _ _ _ (fun k_ => some k_ ≠ (.slice Ao13 t190.length co13 : Value).ownBlock) (fun _ => False) rfl rfl ?aO ?aR (fun _ _ h => h) (fun _ h => h.elim) ?aF ?aB ?aS ?aL ?_; (case aR => repeat (first | exact (Kd.R_reads' Qa.out).2.2 | (with_reducible refine Kd.C_alloc ?_ _) | (with_reducible refine Kd.C_drewN ?_ _) | (with_reducible refine Kd.C_drew ?_))); (case aB => exact (by repeat (first | (with_reducible first | exact HB.out | apply qqc | apply qqa | apply qqb) | exact HB.out))); (case aF => exact (fun k_ hk => Kd.fresh' (Kd.R_lt (by (with_reducible repeat (first | apply Kd.R_alloc | apply Kd.R_drewN | apply Kd.R_drew)); exact Qa.out)) k_ hk)); (case aO => exact (by (with_reducible repeat (first | apply Kd.R_alloc | apply Kd.R_drewN | apply Kd.R_drew)); exact Kd.R_mono HO_6.out (fun _ hk => hk.2))); (case aS => exact (qqt (by repeat (first | (with_reducible first | exact HB.out | apply qqc | apply qqa | apply qqb) | exact HB.out)))); (case aL => have := LMc9.out; omega); intro v195 w12 ho hb hg hat; rw [← Ny194.out] at ho; have n0_ := Aside0.mk (Kd.R_after (ok := (fun _ => True)) (by (with_reducible repeat (first | apply Kd.R_alloc | apply Kd.R_drewN | apply Kd.R_drew)); exact Qa.out) hg hat); have n1_ := Aside0.mk (hb); have n2_ := Aside0.mk (ho); clear Qa; clear HB; clear HO_6; have Qa := n0_; have HB := n1_; have HO196 := n2_; clear n0_ n1_ n2_; clear ho hb hg hat))
         go_roundg k1
         case measure => have := HK1.out; omega
         case rel => exact ⟨(y194), (wrap64 (Q0 + 1)), (by first | rfl | (simp; done) | (simp [*]; done)), H', ⟨by have := HK1.out; omega⟩, ⟨by (with_reducible repeat (first | apply Kd.R_alloc | apply Kd.R_drewN | apply Kd.R_drew)); exact Kd.R_mono HO196.out (fun _ hk => trivial)⟩, ⟨by repeat (first | (with_reducible first | exact HB.out | apply qqc | apply qqa | apply qqb) | exact HB.out)⟩⟩
        ·rw [if_neg c9] at H
         exact absurd H (by simp)
       ·rw [if_neg c8] at H
        have c8b0 : (t191 == 0) = false := beq_eq_false_iff_ne.mpr c8
        have c8b1 : (t191 != 0) = true := bne_iff_ne.mpr c8
        simp only [Option.some.injEq, Prod.mk.injEq] at H
        obtain ⟨rfl, rfl⟩ := H
        try go_wp2
        replace HO_6 := Aside0.mk (Kd.R_drew HO_6.out)
        replace HB := Aside0.mk (qqb HB.out)
        have p188 : 0 ≤ (Q0 : Int) := of_decide_eq_true (by first | (with_reducible assumption) | assumption)
        have q188 : Q0 < (l0.length : Int) := of_decide_eq_true (by first | (with_reducible assumption) | assumption)
        obtain ⟨ad188, e188, Q1⟩ := Kd.at_int HR0.out Q0 p188 q188
        have Q5 := Q1
        cases e188
        replace Q1 := (HB.out.cell (World.block_lt_of_cell? w _ Q1)).trans Q1
        replace p188 := eq_true p188
        replace q188 := eq_true q188
        have p189 : 0 ≤ (Q0 : Int) := of_decide_eq_true (by first | (with_reducible assumption) | assumption)
        have q189 : Q0 < (l1.length : Int) := of_decide_eq_true (by first | (with_reducible assumption) | assumption)
        obtain ⟨ad189, e189, Q2⟩ := Kd.at_int HR1.out Q0 p189 q189
        have Q6 := Q2
        cases e189
        replace Q2 := (HB.out.cell (World.block_lt_of_cell? w _ Q2)).trans Q2
        replace p189 := eq_true p189
        replace q189 := eq_true q189
        refine start_ (n := 14) (S := fun w' => w'.cell? (ad188.add (Q0).toNat) = some (.int .i64 (rd l0 Q0)) ∧ w'.cell? (ad189.add (Q0).toNat) = some (.int .i64 (rd l1 Q0))) (ds := []) #[false, false, false, false, false, false, false, false, false, false, false, false, false, false] (by kernel_rfl) rfl rfl ⟨((HB.out.cell (World.block_lt_of_cell? w _ Q5)).trans Q5), ((HB.out.cell (World.block_lt_of_cell? w _ Q6)).trans Q6)⟩ (fun hHeld => ?_); refine with_tabW wayfinderref02_PutAll.tab7 wayfinderref02_PutAll.bits7 (fun HT_ HW_ => ?_)
        generalize wr.drew = w14 at HO_6 HB Q1 Q2 hHeld ⊢
        refine qqy (i := 0) (N := some 22) (v := ?_) (a' := ?_) #[true, false, false, false, false, false, false, false, false, false, false, false, false, false] rfl rfl (qqp HT_.out (by kernel_rfl)) (fun _ _ _ h => h) (Or.inl ⟨by rfl, ?_⟩) ?_ ?_
        rotate_left
        ·intro w'
         go_simp
         with_reducible rfl
        rotate_left
        ·simp only [Act.put, qsA, qsB, qsC, qqs, qqu]
         rfl
        refine qqy (i := 1) (N := some 23) (v := ?_) (a' := ?_) #[true, true, false, false, false, false, false, false, false, false, false, false, false, false] rfl rfl (qqp HT_.out (by kernel_rfl)) (fun _ _ _ h => h) (Or.inl ⟨by rfl, ?_⟩) ?_ ?_
        rotate_left
        ·intro w'
         go_simp
         with_reducible rfl
        rotate_left
        ·simp only [Act.put, qsA, qsB, qsC, qqs, qqu]
         rfl
        refine qqy (i := 2) (N := some 24) (v := ?_) (a' := ?_) #[true, true, true, false, false, false, false, false, false, false, false, false, false, false] rfl rfl (qqp HT_.out (by kernel_rfl)) (fun _ _ _ h => h) (Or.inl ⟨by rfl, ?_⟩) ?_ ?_
        rotate_left
        ·intro w'
         go_simp
         with_reducible rfl
        rotate_left
        ·simp only [Act.put, qsA, qsB, qsC, qqs, qqu]
         rfl
        refine qqy (i := 4) (N := some 26) (v := ?_) (a' := ?_) #[true, true, true, false, true, false, false, false, false, false, false, false, false, false] rfl rfl (qqp HT_.out (by kernel_rfl)) (fun _ _ _ h => h) (Or.inl ⟨by rfl, ?_⟩) ?_ ?_
        rotate_left
        ·intro w'
         go_simp
         with_reducible rfl
        rotate_left
        ·simp only [Act.put, qsA, qsB, qsC, qqs, qqu]
         rfl
        refine qqy (i := 5) (N := some 27) (v := ?_) (a' := ?_) #[true, true, true, false, true, true, false, false, false, false, false, false, false, false] rfl rfl (qqp HT_.out (by kernel_rfl)) (fun _ _ _ h => h) (Or.inl ⟨by rfl, ?_⟩) ?_ ?_
        rotate_left
        ·intro w'
         go_simp
         with_reducible rfl
        rotate_left
        ·simp only [Act.put, qsA, qsB, qsC, qqs, qqu]
         rfl
        refine qqy (i := 6) (N := some 28) (v := ?_) (a' := ?_) #[true, true, true, false, true, true, true, false, false, false, false, false, false, false] rfl rfl (qqp HT_.out (by kernel_rfl)) (fun _ _ _ h => h) (Or.inl ⟨by rfl, ?_⟩) ?_ ?_
        rotate_left
        ·intro w'
         go_simp
         with_reducible rfl
        rotate_left
        ·simp only [Act.put, qsA, qsB, qsC, qqs, qqu]
         rfl
        refine take_ (i := 3) (N := some 25) (v := ?_) (a' := ?_) #[true, true, true, true, true, true, true, false, false, false, false, false, false, false] rfl rfl (take_ofW HT_.out HW_.out (by kernel_rfl)) (fun _ _ _ h => h) (Or.inl ⟨by rfl, ?_⟩) hHeld ?_ ?_
        rotate_left
        ·rintro w' ⟨s0, s1⟩
         go_simp
         with_reducible rfl
        rotate_left
        ·simp only [Act.put, qsA, qsB, qsC, qqs, qqu]
         rfl
        refine take_ (i := 7) (N := some 29) (v := ?_) (a' := ?_) #[true, true, true, true, true, true, true, true, false, false, false, false, false, false] rfl rfl (take_ofW HT_.out HW_.out (by kernel_rfl)) (fun _ _ _ h => h) (Or.inl ⟨by rfl, ?_⟩) hHeld ?_ ?_
        rotate_left
        ·rintro w' ⟨s0, s1⟩
         go_simp
         with_reducible rfl
        rotate_left
        ·simp only [Act.put, qsA, qsB, qsC, qqs, qqu]
         rfl
        refine one_ (i := 8) (N := some 30) #[true, true, true, true, true, true, true, true, true, false, false, false, false, false] rfl rfl (one_of HT_.out (by kernel_rfl)) (by decide) (fun K hK => ?_)
        refine goes_ Tryd.func18 (by kernel_rfl) rfl #[.int .i64 (rd l0 Q0), .int .i64 (rd l1 Q0)] (by rfl) rfl rfl (by (try simp only [List.map_toArray, List.map_cons, List.map_nil]); first | done | rfl | (simp only [List.length_drop, List.length_take]; rfl)) ?_
        with_reducible refine (wayfinderref02_Put.calls k1 (rd l0 Q0) (rd l1 Q0) t190 t191 _ A7.out).mono ?_
        rintro e w15 ⟨v192, rfl, ho0, hb⟩
        refine ⟨_, rfl, ?_⟩
        have n0_ := Aside0.mk (Kd.R_elder' (by (with_reducible repeat (first | apply Kd.R_alloc | apply Kd.R_drewN | apply Kd.R_drew)); exact HO_6.out) (Kd.R_base ho0) hb)
        have n1_ := Aside0.mk (Kd.R_lower (Kd.R_new' ho0 (Kd.R_lt (by (with_reducible repeat (first | apply Kd.R_alloc | apply Kd.R_drewN | apply Kd.R_drew)); exact HO_6.out))) (qqt (by repeat (first | (with_reducible first | exact HB.out | apply qqc | apply qqa | apply qqb) | exact HB.out))))
        have n2_ := bst HB hb
        clear HO_6
        clear HB
        have HO_6 := n0_
        have Qa := n1_
        have HB := n2_
        clear n0_ n1_ n2_
        (try clear hb)
        (try clear hb2)
        (try clear hk)
        (try clear hi)
        (try clear ho0)
        refine hK.out _ _ ⟨((HB.out.cell (World.block_lt_of_cell? w _ Q5)).trans Q5), ((HB.out.cell (World.block_lt_of_cell? w _ Q6)).trans Q6)⟩ (fun hHeld => ?_)
        clear hK K
        refine norm_ (a' := ?_) ?_ ?_
        rotate_left
        ·show Act.put _ (some 30) _ = _
         simp only [Act.put, qsA, qsB, qsC, qqs, qqu]
         rfl
        refine qqy (i := 9) (N := some 21) (v := ?_) (a' := ?_) #[true, true, true, true, true, true, true, true, true, true, false, false, false, false] rfl rfl (qqp HT_.out (by kernel_rfl)) (fun _ _ _ h => h) (Or.inl ⟨by rfl, ?_⟩) ?_ ?_
        rotate_left
        ·intro w'
         go_simp
         with_reducible rfl
        rotate_left
        ·simp only [Act.put, qsA, qsB, qsC, qqs, qqu]
         rfl
        refine qqy (i := 10) (N := some 31) (v := ?_) (a' := ?_) #[true, true, true, true, true, true, true, true, true, true, true, false, false, false] rfl rfl (qqp HT_.out (by kernel_rfl)) (fun _ _ _ h => h) (Or.inl ⟨by rfl, ?_⟩) ?_ ?_
        rotate_left
        ·intro w'
         go_simp
         with_reducible rfl
        rotate_left
        ·simp only [Act.put, qsA, qsB, qsC, qqs, qqu]
         rfl
        refine qqy (i := 11) (N := some 32) (v := ?_) (a' := ?_) #[true, true, true, true, true, true, true, true, true, true, true, true, false, false] rfl rfl (qqp HT_.out (by kernel_rfl)) (fun _ _ _ h => h) (Or.inl ⟨by rfl, ?_⟩) ?_ ?_
        rotate_left
        ·intro w'
         go_simp
         with_reducible rfl
        rotate_left
        ·simp only [Act.put, qsA, qsB, qsC, qqs, qqu]
         rfl
        refine qqy (i := 12) (N := some 8) (v := ?_) (a' := ?_) #[true, true, true, true, true, true, true, true, true, true, true, true, true, false] rfl rfl (qqp HT_.out (by kernel_rfl)) (fun _ _ _ h => h) (Or.inl ⟨by rfl, ?_⟩) ?_ ?_
        rotate_left
        ·intro w'
         go_simp
         with_reducible rfl
        rotate_left
        ·simp only [Act.put, qsA, qsB, qsC, qqs, qqu]
         rfl
        refine qqy (i := 13) (N := some 9) (v := ?_) (a' := ?_) #[true, true, true, true, true, true, true, true, true, true, true, true, true, true] rfl rfl (qqp HT_.out (by kernel_rfl)) (fun _ _ _ h => h) (Or.inl ⟨by rfl, ?_⟩) ?_ ?_
        rotate_left
        ·intro w'
         go_simp
         with_reducible rfl
        rotate_left
        ·simp only [Act.put, qsA, qsB, qsC, qqs, qqu]
         rfl
        refine done_ (done_of HT_.out (by kernel_rfl)) ?_
        try go_wp2
        go_ret2
        exact ⟨_, by first | rfl | (simp [qqk, qqj] <;> rfl) | (simp [*, qqk, qqj] <;> rfl), by first | exact Kd.R_nil _ _ _ _ _ | exact Kd.N_nil _ _ _ _ _ | exact Kd.V_nil _ _ _ _ _ | exact Kd.Q_nil _ _ _ _ _ | exact Kd.S_nil _ _ _ _ _, by repeat (first | (with_reducible first | exact HB.out | apply qqc | apply qqa | apply qqb) | exact HB.out)⟩
      ·rw [if_neg c6] at H
       exact absurd H (by simp)
     ·rw [if_neg c5] at H
      exact absurd H (by simp)
    ·rw [if_neg c4] at H
     have c4b0 : decide (Q0 < (l0.length : Int)) = false := decide_eq_false c4
     clear c4
     simp only [Option.some.injEq, Prod.mk.injEq] at H
     obtain ⟨rfl, rfl⟩ := H
     go_wp2
     go_ret2
     exact ⟨_, by first | rfl | (simp [qqk, qqj] <;> rfl) | (simp [*, qqk, qqj] <;> rfl), by (with_reducible repeat (first | apply Kd.R_alloc | apply Kd.R_drewN | apply Kd.R_drew)); exact HO_6.out, by repeat (first | (with_reducible first | exact HB.out | apply qqc | apply qqa | apply qqb) | exact HB.out)⟩
 ·rw [if_neg c3] at H
  have c3b0 : ((l0.length : Int) == (l1.length : Int)) = false := beq_eq_false_iff_ne.mpr c3
  have c3b1 : ((l0.length : Int) != (l1.length : Int)) = true := bne_iff_ne.mpr c3
  have c3b2 : (l0.length == l1.length) = false := by first | simpa using c3 | (simp at c3 ⊢; omega)
  simp only [Option.some.injEq, Prod.mk.injEq] at H
  obtain ⟨rfl, rfl⟩ := H
  go_enter Tryd.func35, Tryd.ntmps35
  go_wp2
  go_ret2
  exact ⟨_, by first | rfl | (simp [qqk, qqj] <;> rfl) | (simp [*, qqk, qqj] <;> rfl), by first | exact Kd.R_nil _ _ _ _ _ | exact Kd.N_nil _ _ _ _ _ | exact Kd.V_nil _ _ _ _ _ | exact Kd.Q_nil _ _ _ _ _ | exact Kd.S_nil _ _ _ _ _, by repeat (first | (with_reducible first | exact HB.out | apply qqc | apply qqa | apply qqb) | exact HB.out)⟩
def wayfinderref04_Put.f (k : Nat) (a0_0 : Int) (a0_1 : Int) (a0_2 : Int) (a0_3 : Int) (a0_4 : Int) (a0_5 : Int) : Option (List Int × Int) := (wayfinderref04_May.f k a0_0 a0_1 a0_2 a0_3 a0_4 a0_5).bind fun t198 => (if t198 = true then ((wayfinderref02_PutAll.f k (([a0_0, a0_1, wrap64 (a0_2 + 1), a0_3, a0_4, a0_5] : List Int)) (([4, 1, 1, 1, 1, 1] : List Int))).bind fun Q4 => (some (Q4.1, Q4.2))) else (some (([] : List Int), 1)))
theorem wayfinderref04_Put.mono : ∀ a0 a1 a2 a3 a4 a5 k, LeO (wayfinderref04_Put.f k a0 a1 a2 a3 a4 a5) (wayfinderref04_Put.f (k + 1) a0 a1 a2 a3 a4 a5) := by
 intro a0 a1 a2 a3 a4 a5 k
 unfold wayfinderref04_Put.f
 repeat' first
   | (with_reducible exact wayfinderref02_PutAll.mono _ _ _)
   | (with_reducible exact wayfinderref04_May.mono _ _ _ _ _ _ _)
   | (with_reducible exact LeO.refl _)
   | (with_reducible exact LeO.none _)
   | (with_reducible refine LeO.ite ?_ ?_)
   | (with_reducible refine LeO.bind ?_ (fun _ => ?_))
   | exact wayfinderref02_PutAll.mono _ _ _
   | exact wayfinderref04_May.mono _ _ _ _ _ _ _
   | exact LeO.none _
   | refine LeO.ite ?_ ?_
   | refine LeO.bind ?_ (fun _ => ?_)
set_option maxHeartbeats 8000000 in
set_option maxRecDepth 100000 in
theorem wayfinderref04_Put.calls (k : Nat) (a0_0 : Int) (a0_1 : Int) (a0_2 : Int) (a0_3 : Int) (a0_4 : Int) (a0_5 : Int) (r1 : List Int) (r2 : Int) (w : World) (h : wayfinderref04_Put.f k a0_0 a0_1 a0_2 a0_3 a0_4 a0_5 = some (r1, r2)) :
  Calls Tryd.prog 36 #[.agg #[.int .i64 a0_0, .int .i64 a0_1, .int .i64 a0_2, .int .i64 a0_3, .int .i64 a0_4, .int .i64 a0_5]] w fun e w' => ∃ v0_ : Value, e = .returned (.tuple #[v0_, .int .i64 r2]) ∧ Kd.R (Kd.int .u8) 5 w' w.heap.size (fun _ => True) v0_ r1 ∧ Below w.heap.size w w' := by
 have hu27 := Tryd.underlying27
 have HB := Aside0.mk (Below.refl w.heap.size w)
 have H : ((wayfinderref04_May.f k a0_0 a0_1 a0_2 a0_3 a0_4 a0_5).bind fun t198 => (if t198 = true then ((wayfinderref02_PutAll.f k (([a0_0, a0_1, wrap64 (a0_2 + 1), a0_3, a0_4, a0_5] : List Int)) (([4, 1, 1, 1, 1, 1] : List Int))).bind fun Q4 => (some (Q4.1, Q4.2))) else (some (([] : List Int), 1)))) = some (r1, r2) := h
 clear h
 replace H := Option.bind_eq_some_iff.mp H
 obtain ⟨t198, A20, H⟩ := H
 replace H : (if t198 = true then ((wayfinderref02_PutAll.f k (([a0_0, a0_1, wrap64 (a0_2 + 1), a0_3, a0_4, a0_5] : List Int)) (([4, 1, 1, 1, 1, 1] : List Int))).bind fun Q4 => (some (Q4.1, Q4.2))) else (some (([] : List Int), 1))) = some (r1, r2) := H
 have A2 := Aside0.mk A20
 clear A20
 by_cases c3 : t198 = true
 ·subst c3
  have H1 : ((wayfinderref02_PutAll.f k (([a0_0, a0_1, wrap64 (a0_2 + 1), a0_3, a0_4, a0_5] : List Int)) (([4, 1, 1, 1, 1, 1] : List Int))).bind fun Q4 => (some (Q4.1, Q4.2))) = some (r1, r2) := by rw [if_pos rfl] at H; exact H
  clear H
  have H := H1
  clear H1
  obtain ⟨y199, hy199⟩ : ∃ y_ : List Int, y_ = (([a0_0, a0_1, wrap64 (a0_2 + 1), a0_3, a0_4, a0_5] : List Int)) := ⟨_, rfl⟩
  replace H : ((wayfinderref02_PutAll.f k y199 (([4, 1, 1, 1, 1, 1] : List Int))).bind fun Q4 => (some (Q4.1, Q4.2))) = some (r1, r2) := by first | (rw [hy199]; with_reducible exact H) | (have H2_ := (Option.bind_some _ _).symm.trans H; rw [hy199]; with_reducible exact H2_) | (have H2_ := (Option.bind_some _ _).symm.trans H; with_reducible exact H2_) | with_reducible exact H | (rw [hy199]; exact H) | exact H
  have Ny199 := Aside0.mk hy199
  clear hy199
  obtain ⟨y202, hy202⟩ : ∃ y_ : List Int, y_ = (([4, 1, 1, 1, 1, 1] : List Int)) := ⟨_, rfl⟩
  replace H : ((wayfinderref02_PutAll.f k y199 y202).bind fun Q4 => (some (Q4.1, Q4.2))) = some (r1, r2) := by first | (rw [hy202]; with_reducible exact H) | (have H2_ := (Option.bind_some _ _).symm.trans H; rw [hy202]; with_reducible exact H2_) | (have H2_ := (Option.bind_some _ _).symm.trans H; with_reducible exact H2_) | with_reducible exact H | (rw [hy202]; exact H) | exact H
  have Ny202 := Aside0.mk hy202
  clear hy202
  replace H := Option.bind_eq_some_iff.mp H
  obtain ⟨⟨t205, t206⟩, A40, H⟩ := H
  replace H : (some (t205, t206)) = some (r1, r2) := H
  have A4 := Aside0.mk A40
  clear A40
  simp only [Option.some.injEq, Prod.mk.injEq] at H
  obtain ⟨rfl, rfl⟩ := H
  go_enter Tryd.func36, Tryd.ntmps36
  go_wp2_with (first | ((with_reducible refine qqr (N := 1) rfl ?_); refine qqw ?hg (N := 1) ?hd (cs := #[.int .i64 a0_0, .int .i64 a0_1, .int .i64 a0_2, .int .i64 a0_3, .int .i64 a0_4, .int .i64 a0_5]) (t := 27) ?hr ?_; (case hd => rfl); (case hg => rfl); (case hr => first | (go_simp; done) | (go_simp; rfl)); intro gb197 hg w5 hbox hb; have n0_ := bst HB hb; have n1_ := Aside0.mk (hbox); have n2_ := szl HB hg; have n3_ := szl HB hg; clear HB; have HB := n0_; have Q3 := n1_; have GW197 := n2_; have GE197 := n3_; clear n0_ n1_ n2_ n3_; clear hb hbox hg; obtain ⟨_, _, _, _, _, _⟩ := bcells6 Q3.out; obtain ⟨_, _, _, _, _, _⟩ := bfrozen6 Q3.out) | ((with_reducible refine qqo (f := 44) rfl ?_); refine goesL_ (some 8) rfl rfl Tryd.func44 (by kernel_rfl) rfl #[.agg #[.int .i64 a0_0, .int .i64 a0_1, .int .i64 a0_2, .int .i64 a0_3, .int .i64 a0_4, .int .i64 a0_5]] rfl (by (try simp only [List.map_toArray, List.map_cons, List.map_nil]); first | done | rfl | (simp only [List.length_drop, List.length_take]; rfl)) ?_; (with_reducible refine (wayfinderref04_May.calls k a0_0 a0_1 a0_2 a0_3 a0_4 a0_5 true _ A2.out).mono ?_); rintro e w7 ⟨rfl, hb⟩; refine ⟨_, rfl, ?_⟩; replace Q3 := bbl Q3 hb; replace HB := bst HB hb; (try clear hb); (try clear hk); obtain ⟨_, _, _, _, _, _⟩ := bcells6 Q3.out; obtain ⟨_, _, _, _, _, _⟩ := bfrozen6 Q3.out) | ((with_reducible refine qqr (N := 29) rfl ?_); refine Kd.R_lit (Kd.int .i64) _ 3 ?hg (N := 29) ?hd (xs := ([a0_0, a0_1, wrap64 (a0_2 + 1), a0_3, a0_4, a0_5] : List Int)) (inner := [.int .i64 a0_0, .int .i64 a0_1, .int .i64 (wrap64 (a0_2 + 1)), .int .i64 a0_3, .int .i64 a0_4, .int .i64 a0_5]) (ok := fun _ => True) (okp := fun _ => True) ?hr ?hp (fun _ hk => hk) trivial (Below.refl _ _) (Nat.le_refl _) (by simp) ?_; (case hd => rfl); (case hg => rfl); (case hr => first | (go_simp; done) | (go_simp; rfl)); (case hp => exact (Reps.one (show Kd.M (Kd.int .i64) _ _ _ a0_0 [.int .i64 a0_0] from rfl) (Reps.one (show Kd.M (Kd.int .i64) _ _ _ a0_1 [.int .i64 a0_1] from rfl) (Reps.one (show Kd.M (Kd.int .i64) _ _ _ (wrap64 (a0_2 + 1)) [.int .i64 (wrap64 (a0_2 + 1))] from rfl) (Reps.one (show Kd.M (Kd.int .i64) _ _ _ a0_3 [.int .i64 a0_3] from rfl) (Reps.one (show Kd.M (Kd.int .i64) _ _ _ a0_4 [.int .i64 a0_4] from rfl) (Reps.one (show Kd.M (Kd.int .i64) _ _ _ a0_5 [.int .i64 a0_5] from rfl) (Reps.none _ _)))))))); intro v200 w9 ho10 hb hg_ hnew_; clear hg_ hnew_; (first | rw [← Ny199.out] at ho10 | (simp only [Int.reduceToNat] at ho10; rw [← Ny199.out] at ho10)); have Q7 := Aside0.mk (Kd.R_lower ho10 (qqt (by repeat (first | (with_reducible first | exact HB.out | apply qqc | apply qqa | apply qqb | refine qqg ?_ GE197.out) | exact HB.out)))); replace Q3 := bbl Q3 hb; replace HB := bst HB hb; clear hb ho10) | ((with_reducible refine qqr (N := 30) rfl ?_); refine Kd.R_lit (Kd.int .i64) _ 3 ?hg (N := 30) ?hd (xs := ([4, 1, 1, 1, 1, 1] : List Int)) (inner := [.int .i64 4, .int .i64 1, .int .i64 1, .int .i64 1, .int .i64 1, .int .i64 1]) (ok := fun _ => True) (okp := fun _ => True) ?hr ?hp (fun _ hk => hk) trivial (Below.refl _ _) (Nat.le_refl _) (by simp) ?_; (case hd => rfl); (case hg => rfl); (case hr => first | (go_simp; done) | (go_simp; rfl)); (case hp => exact (Reps.one (show Kd.M (Kd.int .i64) _ _ _ 4 [.int .i64 4] from rfl) (Reps.one (show Kd.M (Kd.int .i64) _ _ _ 1 [.int .i64 1] from rfl) (Reps.one (show Kd.M (Kd.int .i64) _ _ _ 1 [.int .i64 1] from rfl) (Reps.one (show Kd.M (Kd.int .i64) _ _ _ 1 [.int .i64 1] from rfl) (Reps.one (show Kd.M (Kd.int .i64) _ _ _ 1 [.int .i64 1] from rfl) (Reps.one (show Kd.M (Kd.int .i64) _ _ _ 1 [.int .i64 1] from rfl) (Reps.none _ _)))))))); intro v203 w11 ho12 hb hg_ hnew_; clear hg_ hnew_; (first | rw [← Ny202.out] at ho12 | (simp only [Int.reduceToNat] at ho12; rw [← Ny202.out] at ho12)); have n0_ := Aside0.mk (Kd.R_elder' (by (with_reducible repeat (first | apply Kd.R_alloc | apply Kd.R_drewN | apply Kd.R_drew)); exact Q7.out) (Kd.R_base ho12) hb); have n1_ := Aside0.mk (Kd.R_lower (Kd.R_new' ho12 (Kd.R_lt (by (with_reducible repeat (first | apply Kd.R_alloc | apply Kd.R_drewN | apply Kd.R_drew)); exact Q7.out))) (qqt (by repeat (first | (with_reducible first | exact HB.out | apply qqc | apply qqa | apply qqb | refine qqg ?_ GE197.out) | exact HB.out)))); have n2_ := bbl Q3 hb; have n3_ := bst HB hb; clear Q7; clear Q3; clear HB; have Q7 := n0_; have Qb := n1_; have Q3 := n2_; have HB := n3_; clear n0_ n1_ n2_ n3_; clear hb ho12; obtain ⟨Ao13, co13, eo13⟩ := Kd.R_slice Q7.out; subst eo13; obtain ⟨Ao14, co14, eo14⟩ := Kd.R_slice Qb.out; subst eo14) | ((with_reducible refine qqo (f := 35) rfl ?_); refine goesL_ (some 31) rfl rfl Tryd.func35 (by kernel_rfl) rfl #[.slice Ao13 y199.length co13, .slice Ao14 y202.length co14] rfl (by (try simp only [List.map_toArray, List.map_cons, List.map_nil]); first | done | rfl | (simp only [List.length_drop, List.length_take]; rfl)) ?_; (with_reducible refine (wayfinderref02_PutAll.calls k _ _ y199 _ _ y202 t205 t206 _ ?side1 ?side2 ?side3 ?side4 A4.out).mono ?_); (case side1 => repeat (first | exact (Kd.R_reads' Q7.out).2.2 | (with_reducible refine Kd.C_alloc ?_ _) | (with_reducible refine Kd.C_drewN ?_ _) | (with_reducible refine Kd.C_drew ?_))); (case side2 => exact (Kd.R_reads' Q7.out).2.1); (case side3 => repeat (first | exact (Kd.R_reads' Qb.out).2.2 | (with_reducible refine Kd.C_alloc ?_ _) | (with_reducible refine Kd.C_drewN ?_ _) | (with_reducible refine Kd.C_drew ?_))); (case side4 => exact (Kd.R_reads' Qb.out).2.1); rintro e w15 ⟨v207, rfl, ho0, hb⟩; refine ⟨_, rfl, ?_⟩; replace Q7 := Aside0.mk (Kd.R_below (by (with_reducible repeat (first | apply Kd.R_alloc | apply Kd.R_drewN | apply Kd.R_drew)); exact Q7.out) hb); replace Qb := Aside0.mk (Kd.R_below (by (with_reducible repeat (first | apply Kd.R_alloc | apply Kd.R_drewN | apply Kd.R_drew)); exact Qb.out) hb); have HO208 := Aside0.mk (Kd.R_lower ho0 (qqt (by repeat (first | (with_reducible first | exact HB.out | apply qqc | apply qqa | apply qqb | refine qqg ?_ GE197.out) | exact HB.out)))); replace Q3 := bbl Q3 hb; replace HB := bst HB hb; (try clear hb); (try clear hk); (try clear ho0)))
  go_ret2
  exact ⟨_, by first | rfl | (simp [qqk, qqj] <;> rfl) | (simp [*, qqk, qqj] <;> rfl), by (with_reducible repeat (first | apply Kd.R_alloc | apply Kd.R_drewN | apply Kd.R_drew)); exact HO208.out, by repeat (first | (with_reducible first | exact HB.out | apply qqc | apply qqa | apply qqb | refine qqg ?_ GE197.out) | exact HB.out)⟩
 ·replace c3 := Bool.eq_false_iff.mpr c3
  subst c3
  have H1 : (some (([] : List Int), 1)) = some (r1, r2) := by rw [if_neg (show ¬ (false = true) by decide)] at H; exact H
  clear H
  have H := H1
  clear H1
  simp only [Option.some.injEq, Prod.mk.injEq] at H
  obtain ⟨rfl, rfl⟩ := H
  go_enter Tryd.func36, Tryd.ntmps36
  go_wp2_with (first | ((with_reducible refine qqr (N := 1) rfl ?_); refine qqw ?hg (N := 1) ?hd (cs := #[.int .i64 a0_0, .int .i64 a0_1, .int .i64 a0_2, .int .i64 a0_3, .int .i64 a0_4, .int .i64 a0_5]) (t := 27) ?hr ?_; (case hd => rfl); (case hg => rfl); (case hr => first | (go_simp; done) | (go_simp; rfl)); intro gb197 hg w16 hbox hb; have n0_ := bst HB hb; have n1_ := Aside0.mk (hbox); have n2_ := szl HB hg; have n3_ := szl HB hg; clear HB; have HB := n0_; have Q3 := n1_; have GW197 := n2_; have GE197 := n3_; clear n0_ n1_ n2_ n3_; clear hb hbox hg; obtain ⟨_, _, _, _, _, _⟩ := bcells6 Q3.out; obtain ⟨_, _, _, _, _, _⟩ := bfrozen6 Q3.out) | ((with_reducible refine qqo (f := 44) rfl ?_); refine goesL_ (some 8) rfl rfl Tryd.func44 (by kernel_rfl) rfl #[.agg #[.int .i64 a0_0, .int .i64 a0_1, .int .i64 a0_2, .int .i64 a0_3, .int .i64 a0_4, .int .i64 a0_5]] rfl (by (try simp only [List.map_toArray, List.map_cons, List.map_nil]); first | done | rfl | (simp only [List.length_drop, List.length_take]; rfl)) ?_; (with_reducible refine (wayfinderref04_May.calls k a0_0 a0_1 a0_2 a0_3 a0_4 a0_5 false _ A2.out).mono ?_); rintro e w18 ⟨rfl, hb⟩; refine ⟨_, rfl, ?_⟩; replace Q3 := bbl Q3 hb; replace HB := bst HB hb; (try clear hb)))
  go_ret2
  exact ⟨_, by first | rfl | (simp [qqk, qqj] <;> rfl) | (simp [*, qqk, qqj] <;> rfl), by first | exact Kd.R_nil _ _ _ _ _ | exact Kd.N_nil _ _ _ _ _ | exact Kd.V_nil _ _ _ _ _ | exact Kd.Q_nil _ _ _ _ _ | exact Kd.S_nil _ _ _ _ _, by repeat (first | (with_reducible first | exact HB.out | apply qqc | apply qqa | apply qqb | refine qqg ?_ GE197.out) | exact HB.out)⟩
end Go.Proofs.YtpaoofkahhhjaaaDoor.All
