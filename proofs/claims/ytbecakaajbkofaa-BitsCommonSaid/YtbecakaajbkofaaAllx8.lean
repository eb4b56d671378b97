/- Contracts of Go functions that this seat comes to, each with a plain function that tells its answers; conditions: those that each contract names. Written by a program of this session (wip/print) over the print words. -/
import Derived.Test.YtbecakaajbkofaaAllx0
import Derived.Test.YtbecakaajbkofaaAllx1
import Derived.Test.YtbecakaajbkofaaAllx2
import Derived.Test.YtbecakaajbkofaaAllx4
import Derived.Test.YtbecakaajbkofaaAllx5
namespace Go.Proofs.Ytbecakaajbkofaa.All
open Go.RowKit Go.Proofs.YtbecakaajbkofaaW.PrintWords Go.Proofs.YtbecakaajbkofaaW.PrintLast Go.Proofs.YtbecakaajbkofaaW.PrintMore
attribute [local go_sem] max2_int min2_int max_two min_two max_three min_three max_four min_four   -- for this text's walks alone
set_option linter.unusedVariables false
set_option linter.unusedSimpArgs false

attribute [local go_sem high] eqA24
/-! ### wayfinderlaw01_BitsChain: function 7 -/
def wayfinderlaw01_BitsChain.j0 : Nat → Int → Int → Int → Int → Bool → Bool → Option (Bool)
  | 0, _, _, _, _, _, _ => none
  | k + 1, x0, x1, x2, x3, x9, x41 => if x41 = true then (some x9) else ((bits_Cut.f x0 x2).bind fun bt180 => ((bits_Cut.f x0 x3).bind fun bt182 => ((bits_Within.f bt180.1 bt180.2 bt182.1 bt182.2).bind fun t184 => (if t184 = true then ((bits_Cut.f x0 0).bind fun bt185 => ((bits_Has.f bt185.1 bt185.2 x1).bind fun t187 => (if t187 = true then ((bits_Cut.f x0 32).bind fun bt188 => ((bits_Has.f bt188.1 bt188.2 x1).bind fun t190 => (some (t190 == (x0 == x1))))) else (some false)))) else (some false)))))
def wayfinderlaw01_BitsChain.f (k : Nat) (a0 : Int) (a1 : Int) (a2 : Int) (a3 : Int) : Option (Bool) := (wayfinderlaw01_awake.f).bind fun t179 => (if t179 = true then (if a0 < 0 then (wayfinderlaw01_BitsChain.j0 k a0 a1 a2 a3 t179 true) else (if a0 > 4294967295 then (wayfinderlaw01_BitsChain.j0 k a0 a1 a2 a3 t179 true) else (if a1 < 0 then (wayfinderlaw01_BitsChain.j0 k a0 a1 a2 a3 t179 true) else (if a1 > 4294967295 then (wayfinderlaw01_BitsChain.j0 k a0 a1 a2 a3 t179 true) else (if a2 < 0 then (wayfinderlaw01_BitsChain.j0 k a0 a1 a2 a3 t179 true) else (if a3 < a2 then (wayfinderlaw01_BitsChain.j0 k a0 a1 a2 a3 t179 true) else (wayfinderlaw01_BitsChain.j0 k a0 a1 a2 a3 t179 (decide (a3 > 32))))))))) else (wayfinderlaw01_BitsChain.j0 k a0 a1 a2 a3 t179 true))
theorem wayfinderlaw01_BitsChain.mono_l : ∀ k, (∀ y0 y1 y2 y3 y4 y5, LeO (wayfinderlaw01_BitsChain.j0 k y0 y1 y2 y3 y4 y5) (wayfinderlaw01_BitsChain.j0 (k + 1) y0 y1 y2 y3 y4 y5))
  | 0 => fun _ _ _ _ _ _ r h => by simp [wayfinderlaw01_BitsChain.j0] at h
  | k + 1 => by
    have ih0 := wayfinderlaw01_BitsChain.mono_l k
    · intro y0 y1 y2 y3 y4 y5
      unfold wayfinderlaw01_BitsChain.j0
      repeat' first
      | (with_reducible exact ih0 _ _ _ _ _ _)
      | (with_reducible exact LeO.refl _)
      | (with_reducible exact LeO.none _)
      | (with_reducible refine LeO.ite ?_ ?_)
      | (with_reducible refine LeO.bind ?_ (fun _ => ?_))
      | exact ih0 _ _ _ _ _ _
      | exact LeO.none _
      | refine LeO.ite ?_ ?_
      | refine LeO.bind ?_ (fun _ => ?_)
theorem wayfinderlaw01_BitsChain.mono : ∀ a0 a1 a2 a3 k, LeO (wayfinderlaw01_BitsChain.f k a0 a1 a2 a3) (wayfinderlaw01_BitsChain.f (k + 1) a0 a1 a2 a3) := by
  intro a0 a1 a2 a3 k
  have ih0 := wayfinderlaw01_BitsChain.mono_l k
  unfold wayfinderlaw01_BitsChain.f
  repeat' first
      | (with_reducible exact ih0 _ _ _ _ _ _)
      | (with_reducible exact LeO.refl _)
      | (with_reducible exact LeO.none _)
      | (with_reducible refine LeO.ite ?_ ?_)
      | (with_reducible refine LeO.bind ?_ (fun _ => ?_))
      | exact ih0 _ _ _ _ _ _
      | exact LeO.none _
      | refine LeO.ite ?_ ?_
      | refine LeO.bind ?_ (fun _ => ?_)
set_option maxHeartbeats 8000000 in
set_option maxRecDepth 100000 in
theorem wayfinderlaw01_BitsChain.calls (k : Nat) (a0 : Int) (a1 : Int) (a2 : Int) (a3 : Int) (r : Bool) (w : World) (h : wayfinderlaw01_BitsChain.f k a0 a1 a2 a3 = some r) :
    Calls Try.prog 7 #[.int .i64 a0, .int .i64 a1, .int .i64 a2, .int .i64 a3] w fun e w' => e = .returned (.bool r) ∧ Below w.heap.size w w' := by
  have HB := Aside0.mk (Below.refl w.heap.size w)
  have H : ((wayfinderlaw01_awake.f).bind fun t179 => (if t179 = true then (if a0 < 0 then (wayfinderlaw01_BitsChain.j0 k a0 a1 a2 a3 t179 true) else (if a0 > 4294967295 then (wayfinderlaw01_BitsChain.j0 k a0 a1 a2 a3 t179 true) else (if a1 < 0 then (wayfinderlaw01_BitsChain.j0 k a0 a1 a2 a3 t179 true) else (if a1 > 4294967295 then (wayfinderlaw01_BitsChain.j0 k a0 a1 a2 a3 t179 true) else (if a2 < 0 then (wayfinderlaw01_BitsChain.j0 k a0 a1 a2 a3 t179 true) else (if a3 < a2 then (wayfinderlaw01_BitsChain.j0 k a0 a1 a2 a3 t179 true) else (wayfinderlaw01_BitsChain.j0 k a0 a1 a2 a3 t179 (decide (a3 > 32))))))))) else (wayfinderlaw01_BitsChain.j0 k a0 a1 a2 a3 t179 true))) = some r := h
  clear h
  replace H := Option.bind_eq_some_iff.mp H
  obtain ⟨t179, A50, H⟩ := H
  replace H : (if t179 = true then (if a0 < 0 then (wayfinderlaw01_BitsChain.j0 k a0 a1 a2 a3 t179 true) else (if a0 > 4294967295 then (wayfinderlaw01_BitsChain.j0 k a0 a1 a2 a3 t179 true) else (if a1 < 0 then (wayfinderlaw01_BitsChain.j0 k a0 a1 a2 a3 t179 true) else (if a1 > 4294967295 then (wayfinderlaw01_BitsChain.j0 k a0 a1 a2 a3 t179 true) else (if a2 < 0 then (wayfinderlaw01_BitsChain.j0 k a0 a1 a2 a3 t179 true) else (if a3 < a2 then (wayfinderlaw01_BitsChain.j0 k a0 a1 a2 a3 t179 true) else (wayfinderlaw01_BitsChain.j0 k a0 a1 a2 a3 t179 (decide (a3 > 32))))))))) else (wayfinderlaw01_BitsChain.j0 k a0 a1 a2 a3 t179 true)) = some r := H
  have A5 := Aside0.mk A50
  clear A50
  have HC6 := Aside0.mk H
  clear H
  go_enter Try.func7, Try.ntmps7
  go_upto_region 2 with (first | ((with_reducible refine gate_callee (f := 11) rfl ?_); refine goesL_ (some 10) rfl rfl Try.func11 (by kernel_rfl) rfl #[] rfl (by (try simp only [List.map_toArray, List.map_cons, List.map_nil]); first | done | rfl | (simp only [List.length_drop, List.length_take]; rfl)) ?_; (with_reducible refine (wayfinderlaw01_awake.calls  t179 _ A5.out).mono ?_); rintro e w7 ⟨rfl, hb⟩; refine ⟨_, rfl, ?_⟩; have n0_ := Aside0.mk (below_step (by repeat (first | (with_reducible first | exact HB.out | apply below_alloc | apply pw_below_drewN | apply below_drew1) | exact HB.out)) hb); clear HB; have HB := n0_; clear n0_; (try clear hb); (try clear hb2); (try clear hk); (try clear hi)))
  (try simp only [Act.put, List.setIfInBounds_toArray, List.set_cons_zero, List.set_cons_succ])
  go_cut [41] (fun v41 wc => ∃ (kq : Nat) (x41_5 : Bool), v41 = .bool x41_5 ∧ Aside0 (wayfinderlaw01_BitsChain.j0 kq a0 a1 a2 a3 t179 x41_5 = some r) ∧ Aside0 (kq ≤ k) ∧ Aside0 (Below w.heap.size w wc))
  case first =>
    have H := HC6.out
    clear HC6
    by_cases c8 : t179 = true
    · subst c8
      have H1 : (if a0 < 0 then (wayfinderlaw01_BitsChain.j0 k a0 a1 a2 a3 true true) else (if a0 > 4294967295 then (wayfinderlaw01_BitsChain.j0 k a0 a1 a2 a3 true true) else (if a1 < 0 then (wayfinderlaw01_BitsChain.j0 k a0 a1 a2 a3 true true) else (if a1 > 4294967295 then (wayfinderlaw01_BitsChain.j0 k a0 a1 a2 a3 true true) else (if a2 < 0 then (wayfinderlaw01_BitsChain.j0 k a0 a1 a2 a3 true true) else (if a3 < a2 then (wayfinderlaw01_BitsChain.j0 k a0 a1 a2 a3 true true) else (wayfinderlaw01_BitsChain.j0 k a0 a1 a2 a3 true (decide (a3 > 32))))))))) = some r := by rw [if_pos rfl] at H; exact H
      clear H
      have H := H1
      clear H1
      by_cases c9 : a0 < 0
      · rw [if_pos c9] at H
        have c9b0 : decide (a0 < 0) = true := decide_eq_true c9
        clear c9
        (first | rw [c9b0] | (simp only [i64_w, i32_w]; rw [c9b0]) | skip)
        have H' := Aside0.mk H
        clear H
        go_wp2
        go_meet
        case rel => exact ⟨_, (true), (by first | rfl | (simp; done) | (simp [*]; done)), H', ⟨by first | omega | exact Nat.le_refl _⟩, ⟨by repeat (first | (with_reducible first | exact HB.out | apply below_alloc | apply pw_below_drewN | apply below_drew1) | exact HB.out)⟩⟩
      · rw [if_neg c9] at H
        have c9b0 : decide (a0 < 0) = false := decide_eq_false c9
        clear c9
        (first | rw [c9b0] | (simp only [i64_w, i32_w]; rw [c9b0]) | skip)
        by_cases c10 : a0 > 4294967295
        · rw [if_pos c10] at H
          have c10b0 : decide (4294967295 < a0) = true := decide_eq_true c10
          clear c10
          have H' := Aside0.mk H
          clear H
          go_wp2
          go_meet
          case rel => exact ⟨_, (true), (by first | rfl | (simp; done) | (simp [*]; done)), H', ⟨by first | omega | exact Nat.le_refl _⟩, ⟨by repeat (first | (with_reducible first | exact HB.out | apply below_alloc | apply pw_below_drewN | apply below_drew1) | exact HB.out)⟩⟩
        · rw [if_neg c10] at H
          have c10b0 : decide (4294967295 < a0) = false := decide_eq_false c10
          clear c10
          by_cases c11 : a1 < 0
          · rw [if_pos c11] at H
            have c11b0 : decide (a1 < 0) = true := decide_eq_true c11
            clear c11
            have H' := Aside0.mk H
            clear H
            go_wp2
            go_meet
            case rel => exact ⟨_, (true), (by first | rfl | (simp; done) | (simp [*]; done)), H', ⟨by first | omega | exact Nat.le_refl _⟩, ⟨by repeat (first | (with_reducible first | exact HB.out | apply below_alloc | apply pw_below_drewN | apply below_drew1) | exact HB.out)⟩⟩
          · rw [if_neg c11] at H
            have c11b0 : decide (a1 < 0) = false := decide_eq_false c11
            clear c11
            by_cases c12 : a1 > 4294967295
            · rw [if_pos c12] at H
              have c12b0 : decide (4294967295 < a1) = true := decide_eq_true c12
              clear c12
              have H' := Aside0.mk H
              clear H
              go_wp2
              go_meet
              case rel => exact ⟨_, (true), (by first | rfl | (simp; done) | (simp [*]; done)), H', ⟨by first | omega | exact Nat.le_refl _⟩, ⟨by repeat (first | (with_reducible first | exact HB.out | apply below_alloc | apply pw_below_drewN | apply below_drew1) | exact HB.out)⟩⟩
            · rw [if_neg c12] at H
              have c12b0 : decide (4294967295 < a1) = false := decide_eq_false c12
              clear c12
              by_cases c13 : a2 < 0
              · rw [if_pos c13] at H
                have c13b0 : decide (a2 < 0) = true := decide_eq_true c13
                clear c13
                have H' := Aside0.mk H
                clear H
                go_wp2
                go_meet
                case rel => exact ⟨_, (true), (by first | rfl | (simp; done) | (simp [*]; done)), H', ⟨by first | omega | exact Nat.le_refl _⟩, ⟨by repeat (first | (with_reducible first | exact HB.out | apply below_alloc | apply pw_below_drewN | apply below_drew1) | exact HB.out)⟩⟩
              · rw [if_neg c13] at H
                have c13b0 : decide (a2 < 0) = false := decide_eq_false c13
                clear c13
                by_cases c14 : a3 < a2
                · rw [if_pos c14] at H
                  have c14b0 : decide (a3 < a2) = true := decide_eq_true c14
                  clear c14
                  have H' := Aside0.mk H
                  clear H
                  go_wp2
                  go_meet
                  case rel => exact ⟨_, (true), (by first | rfl | (simp; done) | (simp [*]; done)), H', ⟨by first | omega | exact Nat.le_refl _⟩, ⟨by repeat (first | (with_reducible first | exact HB.out | apply below_alloc | apply pw_below_drewN | apply below_drew1) | exact HB.out)⟩⟩
                · rw [if_neg c14] at H
                  have c14b0 : decide (a3 < a2) = false := decide_eq_false c14
                  clear c14
                  have H' := Aside0.mk H
                  clear H
                  go_wp2
                  go_meet
                  case rel => exact ⟨_, (decide (a3 > 32)), (by first | rfl | (simp; done) | (simp [*]; done)), H', ⟨by first | omega | exact Nat.le_refl _⟩, ⟨by repeat (first | (with_reducible first | exact HB.out | apply below_alloc | apply pw_below_drewN | apply below_drew1) | exact HB.out)⟩⟩
    · replace c8 := Bool.eq_false_iff.mpr c8
      subst c8
      have H1 : (wayfinderlaw01_BitsChain.j0 k a0 a1 a2 a3 false true) = some r := by rw [if_neg (show ¬ (false = true) by decide)] at H; exact H
      clear H
      have H := H1
      clear H1
      have H' := Aside0.mk H
      clear H
      go_wp2
      go_meet
      case rel => exact ⟨_, (true), (by first | rfl | (simp; done) | (simp [*]; done)), H', ⟨by first | omega | exact Nat.le_refl _⟩, ⟨by repeat (first | (with_reducible first | exact HB.out | apply below_alloc | apply pw_below_drewN | apply below_drew1) | exact HB.out)⟩⟩
  case rest =>
    clear HC6
    try clear c1
    try clear p2
    try clear c7
    try clear c8
    try clear c9
    try clear c9b0
    try clear c10
    try clear c10b0
    try clear c11
    try clear c11b0
    try clear c12
    try clear c12b0
    try clear c13
    try clear c13b0
    try clear c14
    try clear c14b0
    obtain ⟨kq, x41_5, rfl, HA, HJ5, HB⟩ := hcut
    cases kq with
    | zero => exact absurd HA.out (by simp [wayfinderlaw01_BitsChain.j0])
    | succ kj5 =>
      have H := HA.out
      clear HA
      simp only [wayfinderlaw01_BitsChain.j0] at H
      by_cases c15 : x41_5 = true
      · subst c15
        have H1 : (some t179) = some r := by rw [if_pos rfl] at H; exact H
        clear H
        have H := H1
        clear H1
        obtain rfl := Option.some.inj H
        go_wp2
        go_ret
        exact ⟨by first | rfl | (simp [errW_none, errW_some] <;> rfl) | (simp [*, errW_none, errW_some] <;> rfl), by repeat (first | (with_reducible first | exact HB.out | apply below_alloc | apply pw_below_drewN | apply below_drew1) | exact HB.out)⟩
      · replace c15 := Bool.eq_false_iff.mpr c15
        subst c15
        have H1 : ((bits_Cut.f a0 a2).bind fun bt180 => ((bits_Cut.f a0 a3).bind fun bt182 => ((bits_Within.f bt180.1 bt180.2 bt182.1 bt182.2).bind fun t184 => (if t184 = true then ((bits_Cut.f a0 0).bind fun bt185 => ((bits_Has.f bt185.1 bt185.2 a1).bind fun t187 => (if t187 = true then ((bits_Cut.f a0 32).bind fun bt188 => ((bits_Has.f bt188.1 bt188.2 a1).bind fun t190 => (some (t190 == (a0 == a1))))) else (some false)))) else (some false))))) = some r := by rw [if_neg (show ¬ (false = true) by decide)] at H; exact H
        clear H
        have H := H1
        clear H1
        replace H := Option.bind_eq_some_iff.mp H
        obtain ⟨⟨t180, t181⟩, A160, H⟩ := H
        replace H : ((bits_Cut.f a0 a3).bind fun bt182 => ((bits_Within.f t180 t181 bt182.1 bt182.2).bind fun t184 => (if t184 = true then ((bits_Cut.f a0 0).bind fun bt185 => ((bits_Has.f bt185.1 bt185.2 a1).bind fun t187 => (if t187 = true then ((bits_Cut.f a0 32).bind fun bt188 => ((bits_Has.f bt188.1 bt188.2 a1).bind fun t190 => (some (t190 == (a0 == a1))))) else (some false)))) else (some false)))) = some r := H
        have A16 := Aside0.mk A160
        clear A160
        replace H := Option.bind_eq_some_iff.mp H
        obtain ⟨⟨t182, t183⟩, A170, H⟩ := H
        replace H : ((bits_Within.f t180 t181 t182 t183).bind fun t184 => (if t184 = true then ((bits_Cut.f a0 0).bind fun bt185 => ((bits_Has.f bt185.1 bt185.2 a1).bind fun t187 => (if t187 = true then ((bits_Cut.f a0 32).bind fun bt188 => ((bits_Has.f bt188.1 bt188.2 a1).bind fun t190 => (some (t190 == (a0 == a1))))) else (some false)))) else (some false))) = some r := H
        have A17 := Aside0.mk A170
        clear A170
        replace H := Option.bind_eq_some_iff.mp H
        obtain ⟨t184, A180, H⟩ := H
        replace H : (if t184 = true then ((bits_Cut.f a0 0).bind fun bt185 => ((bits_Has.f bt185.1 bt185.2 a1).bind fun t187 => (if t187 = true then ((bits_Cut.f a0 32).bind fun bt188 => ((bits_Has.f bt188.1 bt188.2 a1).bind fun t190 => (some (t190 == (a0 == a1))))) else (some false)))) else (some false)) = some r := H
        have A18 := Aside0.mk A180
        clear A180
        by_cases c19 : t184 = true
        · subst c19
          have H1 : ((bits_Cut.f a0 0).bind fun bt185 => ((bits_Has.f bt185.1 bt185.2 a1).bind fun t187 => (if t187 = true then ((bits_Cut.f a0 32).bind fun bt188 => ((bits_Has.f bt188.1 bt188.2 a1).bind fun t190 => (some (t190 == (a0 == a1))))) else (some false)))) = some r := by rw [if_pos rfl] at H; exact H
          clear H
          have H := H1
          clear H1
          replace H := Option.bind_eq_some_iff.mp H
          obtain ⟨⟨t185, t186⟩, A200, H⟩ := H
          replace H : ((bits_Has.f t185 t186 a1).bind fun t187 => (if t187 = true then ((bits_Cut.f a0 32).bind fun bt188 => ((bits_Has.f bt188.1 bt188.2 a1).bind fun t190 => (some (t190 == (a0 == a1))))) else (some false))) = some r := H
          have A20 := Aside0.mk A200
          clear A200
          replace H := Option.bind_eq_some_iff.mp H
          obtain ⟨t187, A210, H⟩ := H
          replace H : (if t187 = true then ((bits_Cut.f a0 32).bind fun bt188 => ((bits_Has.f bt188.1 bt188.2 a1).bind fun t190 => (some (t190 == (a0 == a1))))) else (some false)) = some r := H
          have A21 := Aside0.mk A210
          clear A210
          by_cases c22 : t187 = true
          · subst c22
            have H1 : ((bits_Cut.f a0 32).bind fun bt188 => ((bits_Has.f bt188.1 bt188.2 a1).bind fun t190 => (some (t190 == (a0 == a1))))) = some r := by rw [if_pos rfl] at H; exact H
            clear H
            have H := H1
            clear H1
            replace H := Option.bind_eq_some_iff.mp H
            obtain ⟨⟨t188, t189⟩, A230, H⟩ := H
            replace H : ((bits_Has.f t188 t189 a1).bind fun t190 => (some (t190 == (a0 == a1)))) = some r := H
            have A23 := Aside0.mk A230
            clear A230
            replace H := Option.bind_eq_some_iff.mp H
            obtain ⟨t190, A240, H⟩ := H
            replace H : (some (t190 == (a0 == a1))) = some r := H
            have A24 := Aside0.mk A240
            clear A240
            obtain rfl := Option.some.inj H
            go_wp2_with (first | ((with_reducible refine gate_callee (f := 12) rfl ?_); refine goesL_ (some 45) rfl rfl Try.func12 (by kernel_rfl) rfl #[.int .i64 a0, .int .i64 a2] rfl (by (try simp only [List.map_toArray, List.map_cons, List.map_nil]); first | done | rfl | (simp only [List.length_drop, List.length_take]; rfl)) ?_; (with_reducible refine (bits_Cut.calls a0 a2 t180 t181 _ A16.out).mono ?_); rintro e w25 ⟨rfl, hb⟩; refine ⟨_, rfl, ?_⟩; have n0_ := Aside0.mk (below_step (by repeat (first | (with_reducible first | exact HB.out | apply below_alloc | apply pw_below_drewN | apply below_drew1) | exact HB.out)) hb); clear HB; have HB := n0_; clear n0_; (try clear hb); (try clear hb2); (try clear hk); (try clear hi)) | ((with_reducible refine gate_callee (f := 12) rfl ?_); refine goesL_ (some 48) rfl rfl Try.func12 (by kernel_rfl) rfl #[.int .i64 a0, .int .i64 a3] rfl (by (try simp only [List.map_toArray, List.map_cons, List.map_nil]); first | done | rfl | (simp only [List.length_drop, List.length_take]; rfl)) ?_; (with_reducible refine (bits_Cut.calls a0 a3 t182 t183 _ A17.out).mono ?_); rintro e w26 ⟨rfl, hb⟩; refine ⟨_, rfl, ?_⟩; have n0_ := Aside0.mk (below_step (by repeat (first | (with_reducible first | exact HB.out | apply below_alloc | apply pw_below_drewN | apply below_drew1) | exact HB.out)) hb); clear HB; have HB := n0_; clear n0_; (try clear hb); (try clear hb2); (try clear hk); (try clear hi)) | ((with_reducible refine gate_callee (f := 21) rfl ?_); refine goesL_ (some 49) rfl rfl Try.func21 (by kernel_rfl) rfl #[.agg #[.int .i64 t180, .int .i64 t181], .agg #[.int .i64 t182, .int .i64 t183]] rfl (by (try simp only [List.map_toArray, List.map_cons, List.map_nil]); first | done | rfl | (simp only [List.length_drop, List.length_take]; rfl)) ?_; (with_reducible refine (bits_Within.calls t180 t181 t182 t183 true _ A18.out).mono ?_); rintro e w27 ⟨rfl, hb⟩; refine ⟨_, rfl, ?_⟩; have n0_ := Aside0.mk (below_step (by repeat (first | (with_reducible first | exact HB.out | apply below_alloc | apply pw_below_drewN | apply below_drew1) | exact HB.out)) hb); clear HB; have HB := n0_; clear n0_; (try clear hb); (try clear hb2); (try clear hk); (try clear hi)) | (go_at_call 12; (with_reducible refine (bits_Cut.calls a0 0 t185 t186 _ A20.out).mono ?_); rintro e w28 ⟨rfl, hb⟩; have n0_ := Aside0.mk (below_step (by repeat (first | (with_reducible first | exact HB.out | apply below_alloc | apply pw_below_drewN | apply below_drew1) | exact HB.out)) hb); clear HB; have HB := n0_; clear n0_; (try clear hb); (try clear hb2); (try clear hk); (try clear hi)) | (go_at_call 20; (with_reducible refine (bits_Has.calls t185 t186 a1 true _ A21.out).mono ?_); rintro e w29 ⟨rfl, hb⟩; have n0_ := Aside0.mk (below_step (by repeat (first | (with_reducible first | exact HB.out | apply below_alloc | apply pw_below_drewN | apply below_drew1) | exact HB.out)) hb); clear HB; have HB := n0_; clear n0_; (try clear hb); (try clear hb2); (try clear hk); (try clear hi)) | (go_at_call 12; (with_reducible refine (bits_Cut.calls a0 32 t188 t189 _ A23.out).mono ?_); rintro e w30 ⟨rfl, hb⟩; have n0_ := Aside0.mk (below_step (by repeat (first | (with_reducible first | exact HB.out | apply below_alloc | apply pw_below_drewN | apply below_drew1) | exact HB.out)) hb); clear HB; have HB := n0_; clear n0_; (try clear hb); (try clear hb2); (try clear hk); (try clear hi)) | (go_at_call 20; (with_reducible refine (bits_Has.calls t188 t189 a1 t190 _ A24.out).mono ?_); rintro e w31 ⟨rfl, hb⟩; have n0_ := Aside0.mk (below_step (by repeat (first | (with_reducible first | exact HB.out | apply below_alloc | apply pw_below_drewN | apply below_drew1) | exact HB.out)) hb); clear HB; have HB := n0_; clear n0_; (try clear hb); (try clear hb2); (try clear hk); (try clear hi)))
            go_ret
            exact ⟨by first | rfl | (simp [errW_none, errW_some] <;> rfl) | (simp [*, errW_none, errW_some] <;> rfl), by repeat (first | (with_reducible first | exact HB.out | apply below_alloc | apply pw_below_drewN | apply below_drew1) | exact HB.out)⟩
          · replace c22 := Bool.eq_false_iff.mpr c22
            subst c22
            have H1 : (some false) = some r := by rw [if_neg (show ¬ (false = true) by decide)] at H; exact H
            clear H
            have H := H1
            clear H1
            obtain rfl := Option.some.inj H
            go_wp2_with (first | ((with_reducible refine gate_callee (f := 12) rfl ?_); refine goesL_ (some 45) rfl rfl Try.func12 (by kernel_rfl) rfl #[.int .i64 a0, .int .i64 a2] rfl (by (try simp only [List.map_toArray, List.map_cons, List.map_nil]); first | done | rfl | (simp only [List.length_drop, List.length_take]; rfl)) ?_; (with_reducible refine (bits_Cut.calls a0 a2 t180 t181 _ A16.out).mono ?_); rintro e w32 ⟨rfl, hb⟩; refine ⟨_, rfl, ?_⟩; have n0_ := Aside0.mk (below_step (by repeat (first | (with_reducible first | exact HB.out | apply below_alloc | apply pw_below_drewN | apply below_drew1) | exact HB.out)) hb); clear HB; have HB := n0_; clear n0_; (try clear hb); (try clear hb2); (try clear hk); (try clear hi)) | ((with_reducible refine gate_callee (f := 12) rfl ?_); refine goesL_ (some 48) rfl rfl Try.func12 (by kernel_rfl) rfl #[.int .i64 a0, .int .i64 a3] rfl (by (try simp only [List.map_toArray, List.map_cons, List.map_nil]); first | done | rfl | (simp only [List.length_drop, List.length_take]; rfl)) ?_; (with_reducible refine (bits_Cut.calls a0 a3 t182 t183 _ A17.out).mono ?_); rintro e w33 ⟨rfl, hb⟩; refine ⟨_, rfl, ?_⟩; have n0_ := Aside0.mk (below_step (by repeat (first | (with_reducible first | exact HB.out | apply below_alloc | apply pw_below_drewN | apply below_drew1) | exact HB.out)) hb); clear HB; have HB := n0_; clear n0_; (try clear hb); (try clear hb2); (try clear hk); (try clear hi)) | ((with_reducible refine gate_callee (f := 21) rfl ?_); refine goesL_ (some 49) rfl rfl Try.func21 (by kernel_rfl) rfl #[.agg #[.int .i64 t180, .int .i64 t181], .agg #[.int .i64 t182, .int .i64 t183]] rfl (by (try simp only [List.map_toArray, List.map_cons, List.map_nil]); first | done | rfl | (simp only [List.length_drop, List.length_take]; rfl)) ?_; (with_reducible refine (bits_Within.calls t180 t181 t182 t183 true _ A18.out).mono ?_); rintro e w34 ⟨rfl, hb⟩; refine ⟨_, rfl, ?_⟩; have n0_ := Aside0.mk (below_step (by repeat (first | (with_reducible first | exact HB.out | apply below_alloc | apply pw_below_drewN | apply below_drew1) | exact HB.out)) hb); clear HB; have HB := n0_; clear n0_; (try clear hb); (try clear hb2); (try clear hk); (try clear hi)) | (go_at_call 12; (with_reducible refine (bits_Cut.calls a0 0 t185 t186 _ A20.out).mono ?_); rintro e w35 ⟨rfl, hb⟩; have n0_ := Aside0.mk (below_step (by repeat (first | (with_reducible first | exact HB.out | apply below_alloc | apply pw_below_drewN | apply below_drew1) | exact HB.out)) hb); clear HB; have HB := n0_; clear n0_; (try clear hb); (try clear hb2); (try clear hk); (try clear hi)) | (go_at_call 20; (with_reducible refine (bits_Has.calls t185 t186 a1 false _ A21.out).mono ?_); rintro e w36 ⟨rfl, hb⟩; have n0_ := Aside0.mk (below_step (by repeat (first | (with_reducible first | exact HB.out | apply below_alloc | apply pw_below_drewN | apply below_drew1) | exact HB.out)) hb); clear HB; have HB := n0_; clear n0_; (try clear hb); (try clear hb2); (try clear hk); (try clear hi)))
            go_ret
            exact ⟨by first | rfl | (simp [errW_none, errW_some] <;> rfl) | (simp [*, errW_none, errW_some] <;> rfl), by repeat (first | (with_reducible first | exact HB.out | apply below_alloc | apply pw_below_drewN | apply below_drew1) | exact HB.out)⟩
        · replace c19 := Bool.eq_false_iff.mpr c19
          subst c19
          have H1 : (some false) = some r := by rw [if_neg (show ¬ (false = true) by decide)] at H; exact H
          clear H
          have H := H1
          clear H1
          obtain rfl := Option.some.inj H
          go_wp2_with (first | ((with_reducible refine gate_callee (f := 12) rfl ?_); refine goesL_ (some 45) rfl rfl Try.func12 (by kernel_rfl) rfl #[.int .i64 a0, .int .i64 a2] rfl (by (try simp only [List.map_toArray, List.map_cons, List.map_nil]); first | done | rfl | (simp only [List.length_drop, List.length_take]; rfl)) ?_; (with_reducible refine (bits_Cut.calls a0 a2 t180 t181 _ A16.out).mono ?_); rintro e w37 ⟨rfl, hb⟩; refine ⟨_, rfl, ?_⟩; have n0_ := Aside0.mk (below_step (by repeat (first | (with_reducible first | exact HB.out | apply below_alloc | apply pw_below_drewN | apply below_drew1) | exact HB.out)) hb); clear HB; have HB := n0_; clear n0_; (try clear hb); (try clear hb2); (try clear hk); (try clear hi)) | ((with_reducible refine gate_callee (f := 12) rfl ?_); refine goesL_ (some 48) rfl rfl Try.func12 (by kernel_rfl) rfl #[.int .i64 a0, .int .i64 a3] rfl (by (try simp only [List.map_toArray, List.map_cons, List.map_nil]); first | done | rfl | (simp only [List.length_drop, List.length_take]; rfl)) ?_; (with_reducible refine (bits_Cut.calls a0 a3 t182 t183 _ A17.out).mono ?_); rintro e w38 ⟨rfl, hb⟩; refine ⟨_, rfl, ?_⟩; have n0_ := Aside0.mk (below_step (by repeat (first | (with_reducible first | exact HB.out | apply below_alloc | apply pw_below_drewN | apply below_drew1) | exact HB.out)) hb); clear HB; have HB := n0_; clear n0_; (try clear hb); (try clear hb2); (try clear hk); (try clear hi)) | ((with_reducible refine gate_callee (f := 21) rfl ?_); refine goesL_ (some 49) rfl rfl Try.func21 (by kernel_rfl) rfl #[.agg #[.int .i64 t180, .int .i64 t181], .agg #[.int .i64 t182, .int .i64 t183]] rfl (by (try simp only [List.map_toArray, List.map_cons, List.map_nil]); first | done | rfl | (simp only [List.length_drop, List.length_take]; rfl)) ?_; (with_reducible refine (bits_Within.calls t180 t181 t182 t183 false _ A18.out).mono ?_); rintro e w39 ⟨rfl, hb⟩; refine ⟨_, rfl, ?_⟩; have n0_ := Aside0.mk (below_step (by repeat (first | (with_reducible first | exact HB.out | apply below_alloc | apply pw_below_drewN | apply below_drew1) | exact HB.out)) hb); clear HB; have HB := n0_; clear n0_; (try clear hb); (try clear hb2); (try clear hk); (try clear hi)))
          go_ret
          exact ⟨by first | rfl | (simp [errW_none, errW_some] <;> rfl) | (simp [*, errW_none, errW_some] <;> rfl), by repeat (first | (with_reducible first | exact HB.out | apply below_alloc | apply pw_below_drewN | apply below_drew1) | exact HB.out)⟩

/-- THE ONE PURE STATEMENT of wayfinderlaw01_BitsChain: yours. -/
def wayfinderlaw01_BitsChain.Pure : Prop := ∀ (a0 : Int) (a1 : Int) (a2 : Int) (a3 : Int), (Lit.int .i64 a0).wf = true → (Lit.int .i64 a1).wf = true → (Lit.int .i64 a2).wf = true → (Lit.int .i64 a3).wf = true → ∃ k, wayfinderlaw01_BitsChain.f k a0 a1 a2 a3 = some true
theorem wayfinderlaw01_BitsChain.walk (P : wayfinderlaw01_BitsChain.Pure) (a0 : Int) (a1 : Int) (a2 : Int) (a3 : Int) (w : World) (w0 : (Lit.int .i64 a0).wf = true) (w1 : (Lit.int .i64 a1).wf = true) (w2 : (Lit.int .i64 a2).wf = true) (w3 : (Lit.int .i64 a3).wf = true) :
    Calls Try.prog 7 #[.int .i64 a0, .int .i64 a1, .int .i64 a2, .int .i64 a3] w fun e w' => e = .returned (.bool true) ∧ Below w.heap.size w w' := by
  obtain ⟨k, h⟩ := P a0 a1 a2 a3 w0 w1 w2 w3
  refine (wayfinderlaw01_BitsChain.calls k a0 a1 a2 a3 true w h).mono ?_
  rintro e w' ⟨rfl, hd⟩
  exact ⟨rfl, hd⟩

/-! ### bits_Bit: function 22 -/
theorem bits_Bit.lone (x : Int) (h0 : 0 ≤ x) (h1 : x < 4294967296) : Go.bits .and .u32 x 1 = x % 2 :=
  Go.bits_mask .u32 32 (by decide) (fun n h0 h1 => by rw [Go.IntKind.wrap_u32]; omega) 1 (by decide) x h0 (by simpa using h1)
def bits_Bit.f (a0 : Int) (a1 : Int) : Option (Int) := if a1 < 0 then some 0 else (if a1 ≥ 32 then some 0 else some (a0 % 4294967296 / 2 ^ (31 - a1).toNat % 2))
set_option maxHeartbeats 8000000 in
set_option maxRecDepth 100000 in
theorem bits_Bit.calls (a0 : Int) (a1 : Int) (r : Int) (w : World) (h : bits_Bit.f a0 a1 = some r) :
    Calls Try.prog 22 #[.int .i64 a0, .int .i64 a1] w fun e w' => e = .returned (.int .i64 r) ∧ Drawn0 w w' := by
  unfold bits_Bit.f at h
  have hmf : ∀ (fn : Fn) (first cap : Array Value) (w : World), (Instr.makeFunc fn first cap).run Try.prog w = .ok (.func fn first cap) w := fun _ _ _ _ => rfl
  by_cases h0 : a1 < 0
  · rw [if_pos h0] at h
    obtain rfl := Option.some.inj h
    clear h
    go_enter Try.func22, Try.ntmps22
    go_wp2
    go_ret
    exact ⟨rfl, Drawn0.refl w⟩
  · rw [if_neg h0] at h
    by_cases h1 : a1 ≥ 32
    · rw [if_pos h1] at h
      obtain rfl := Option.some.inj h
      clear h
      go_enter Try.func22, Try.ntmps22
      go_wp2
      go_ret
      exact ⟨rfl, Drawn0.refl w⟩
    · rw [if_neg h1] at h
      obtain rfl := Option.some.inj h
      clear h
      have e1 : 0 ≤ a0 % 4294967296 / 2 ^ (31 - a1).toNat := Int.ediv_nonneg (by omega) (Int.pow_nonneg (by decide))
      have e2 : a0 % 4294967296 / 2 ^ (31 - a1).toNat < 4294967296 := Int.lt_of_le_of_lt (Int.ediv_le_self _ (by omega)) (by omega)
      have e3 := bits_Bit.lone _ e1 e2
      have e4 : wrap64 (a0 % 4294967296 / 2 ^ (31 - a1).toNat % 2) = a0 % 4294967296 / 2 ^ (31 - a1).toNat % 2 := by unfold wrap64; omega
      have E := Aside0.mk (e3 ▸ e4 : wrap64 (Go.bits .and .u32 (a0 % 4294967296 / 2 ^ (31 - a1).toNat) 1) = a0 % 4294967296 / 2 ^ (31 - a1).toNat % 2)
      clear e1 e2 e3 e4
      go_enter Try.func22, Try.ntmps22
      go_wp2
      go_ret
      exact ⟨by rw [← E.out]; rfl, Drawn0.refl w⟩

/-! ### wayfinderref01_Common: function 24 -/
def wayfinderref01_Common.l0 : Nat → Int → Int → Int → Option (Int)
  | 0, _, _, _ => none
  | k + 1, x0, x1, x5 => if x5 < 32 then ((wayfinderref01_Bit.f k x0 x5).bind fun t191 => ((wayfinderref01_Bit.f k x1 x5).bind fun t192 => (if t191 = t192 then (wayfinderref01_Common.l0 k x0 x1 (wrap64 (x5 + 1))) else (some x5)))) else (some 32)
def wayfinderref01_Common.f (k : Nat) (a0 : Int) (a1 : Int) : Option (Int) := wayfinderref01_Common.l0 k a0 a1 0
theorem wayfinderref01_Common.mono_l : ∀ k, (∀ y0 y1 y2, LeO (wayfinderref01_Common.l0 k y0 y1 y2) (wayfinderref01_Common.l0 (k + 1) y0 y1 y2))
  | 0 => fun _ _ _ r h => by simp [wayfinderref01_Common.l0] at h
  | k + 1 => by
    have ih0 := wayfinderref01_Common.mono_l k
    · intro y0 y1 y2
      unfold wayfinderref01_Common.l0
      repeat' first
      | (with_reducible exact ih0 _ _ _)
      | (with_reducible exact wayfinderref01_Bit.mono _ _ _)
      | (with_reducible exact LeO.refl _)
      | (with_reducible exact LeO.none _)
      | (with_reducible refine LeO.ite ?_ ?_)
      | (with_reducible refine LeO.bind ?_ (fun _ => ?_))
      | exact ih0 _ _ _
      | exact wayfinderref01_Bit.mono _ _ _
      | exact LeO.none _
      | refine LeO.ite ?_ ?_
      | refine LeO.bind ?_ (fun _ => ?_)
theorem wayfinderref01_Common.mono : ∀ a0 a1 k, LeO (wayfinderref01_Common.f k a0 a1) (wayfinderref01_Common.f (k + 1) a0 a1) := by
  intro a0 a1 k
  have ih0 := wayfinderref01_Common.mono_l k
  unfold wayfinderref01_Common.f
  repeat' first
      | (with_reducible exact ih0 _ _ _)
      | (with_reducible exact wayfinderref01_Bit.mono _ _ _)
      | (with_reducible exact LeO.refl _)
      | (with_reducible exact LeO.none _)
      | (with_reducible refine LeO.ite ?_ ?_)
      | (with_reducible refine LeO.bind ?_ (fun _ => ?_))
      | exact ih0 _ _ _
      | exact wayfinderref01_Bit.mono _ _ _
      | exact LeO.none _
      | refine LeO.ite ?_ ?_
      | refine LeO.bind ?_ (fun _ => ?_)
set_option maxHeartbeats 8000000 in
set_option maxRecDepth 100000 in
theorem wayfinderref01_Common.calls (k : Nat) (a0 : Int) (a1 : Int) (r : Int) (w : World) (h : wayfinderref01_Common.f k a0 a1 = some r) :
    Calls Try.prog 24 #[.int .i64 a0, .int .i64 a1] w fun e w' => e = .returned (.int .i64 r) ∧ Drawn0 w w' := by
  have H : (wayfinderref01_Common.l0 k a0 a1 0) = some r := h
  clear h
  have H' := Aside0.mk H
  clear H
  go_enter Try.func24, Try.ntmps24
  go_wp2
  go_loopg [5] k (fun kq v5 w' => ∃ (x5_1 : Int), v5 = .int .i64 x5_1 ∧ Aside0 (wayfinderref01_Common.l0 kq a0 a1 x5_1 = some r) ∧ Aside0 (kq ≤ k) ∧ Drawn0 w w')
  case atStart => exact ⟨(0), (by first | rfl | (simp; done) | (simp [*]; done)), H', ⟨Nat.le_refl _⟩, by repeat (first | exact Drawn0.refl _ | apply Drawn0.step)⟩
  case round =>
    clear H'
    try clear c2
    try clear p2
    obtain ⟨x5_1, rfl, HA, HK1, ⟨m1, rfl⟩⟩ := hrel
    cases gk with
    | zero => exact absurd HA.out (by simp [wayfinderref01_Common.l0])
    | succ k1 =>
      have H := HA.out
      clear HA
      simp only [wayfinderref01_Common.l0] at H
      by_cases c3 : x5_1 < 32
      · rw [if_pos c3] at H
        have c3b0 : decide (x5_1 < 32) = true := decide_eq_true c3
        clear c3
        replace H := Option.bind_eq_some_iff.mp H
        obtain ⟨t191, A40, H⟩ := H
        replace H : ((wayfinderref01_Bit.f k1 a1 x5_1).bind fun t192 => (if t191 = t192 then (wayfinderref01_Common.l0 k1 a0 a1 (wrap64 (x5_1 + 1))) else (some x5_1))) = some r := H
        have A4 := Aside0.mk A40
        clear A40
        replace H := Option.bind_eq_some_iff.mp H
        obtain ⟨t192, A50, H⟩ := H
        replace H : (if t191 = t192 then (wayfinderref01_Common.l0 k1 a0 a1 (wrap64 (x5_1 + 1))) else (some x5_1)) = some r := H
        have A5 := Aside0.mk A50
        clear A50
        by_cases c6 : t191 = t192
        · rw [if_pos c6] at H
          have c6b0 : (t191 == t192) = true := beq_iff_eq.mpr c6
          have c6b1 : (t191 != t192) = false := bne_eq_false_iff_eq.mpr c6
          clear c6
          have H' := Aside0.mk H
          clear H
          go_wp2_with (first | ((with_reducible refine gate_callee (f := 23) rfl ?_); refine goesL_ (some 12) rfl rfl Try.func23 (by kernel_rfl) rfl #[.int .i64 a0, .int .i64 x5_1] rfl (by (try simp only [List.map_toArray, List.map_cons, List.map_nil]); first | done | rfl | (simp only [List.length_drop, List.length_take]; rfl)) ?_; (with_reducible refine (wayfinderref01_Bit.calls k1 a0 x5_1 t191 _ A4.out).mono ?_); rintro e w' ⟨rfl, ⟨nd, rfl⟩⟩; refine ⟨_, rfl, ?_⟩) | ((with_reducible refine gate_callee (f := 23) rfl ?_); refine goesL_ (some 15) rfl rfl Try.func23 (by kernel_rfl) rfl #[.int .i64 a1, .int .i64 x5_1] rfl (by (try simp only [List.map_toArray, List.map_cons, List.map_nil]); first | done | rfl | (simp only [List.length_drop, List.length_take]; rfl)) ?_; (with_reducible refine (wayfinderref01_Bit.calls k1 a1 x5_1 t192 _ A5.out).mono ?_); rintro e w' ⟨rfl, ⟨nd, rfl⟩⟩; refine ⟨_, rfl, ?_⟩))
          go_roundg k1
          case measure => have := HK1.out; omega
          case rel => exact ⟨(wrap64 (x5_1 + 1)), (by first | rfl | (simp; done) | (simp [*]; done)), H', ⟨by have := HK1.out; omega⟩, by repeat (first | exact Drawn0.refl _ | apply Drawn0.step)⟩
        · rw [if_neg c6] at H
          have c6b0 : (t191 == t192) = false := beq_eq_false_iff_ne.mpr c6
          have c6b1 : (t191 != t192) = true := bne_iff_ne.mpr c6
          obtain rfl := Option.some.inj H
          go_wp2_with (first | ((with_reducible refine gate_callee (f := 23) rfl ?_); refine goesL_ (some 12) rfl rfl Try.func23 (by kernel_rfl) rfl #[.int .i64 a0, .int .i64 x5_1] rfl (by (try simp only [List.map_toArray, List.map_cons, List.map_nil]); first | done | rfl | (simp only [List.length_drop, List.length_take]; rfl)) ?_; (with_reducible refine (wayfinderref01_Bit.calls k1 a0 x5_1 t191 _ A4.out).mono ?_); rintro e w' ⟨rfl, ⟨nd, rfl⟩⟩; refine ⟨_, rfl, ?_⟩) | ((with_reducible refine gate_callee (f := 23) rfl ?_); refine goesL_ (some 15) rfl rfl Try.func23 (by kernel_rfl) rfl #[.int .i64 a1, .int .i64 x5_1] rfl (by (try simp only [List.map_toArray, List.map_cons, List.map_nil]); first | done | rfl | (simp only [List.length_drop, List.length_take]; rfl)) ?_; (with_reducible refine (wayfinderref01_Bit.calls k1 a1 x5_1 t192 _ A5.out).mono ?_); rintro e w' ⟨rfl, ⟨nd, rfl⟩⟩; refine ⟨_, rfl, ?_⟩))
          go_ret
          exact ⟨by first | rfl | (simp; done) | (simp [*]; done), by repeat (first | exact Drawn0.refl _ | apply Drawn0.step)⟩
      · rw [if_neg c3] at H
        have c3b0 : decide (x5_1 < 32) = false := decide_eq_false c3
        clear c3
        obtain rfl := Option.some.inj H
        go_wp2
        go_ret
        exact ⟨by first | rfl | (simp; done) | (simp [*]; done), by repeat (first | exact Drawn0.refl _ | apply Drawn0.step)⟩

/-! ### wayfinderlaw01_BitsTell: function 8 -/
def wayfinderlaw01_BitsTell.f (k : Nat) (a0 : Int) (a1 : Int) (a2 : Int) : Option (Bool) := (wayfinderlaw01_awake.f).bind fun t193 => (if t193 = true then ((bits_Bit.f a0 a2).bind fun t194 => ((wayfinderref01_Bit.f k a0 a2).bind fun t195 => (if t194 = t195 then ((bits_Common.f a0 a1).bind fun t196 => ((wayfinderref01_Common.f k a0 a1).bind fun t197 => (if t196 = t197 then ((bits_Mask.f a2).bind fun t198 => ((wayfinderref01_Mask.f k a2).bind fun t199 => (if t198 = t199 then ((bits_Cut.f a0 a2).bind fun bt200 => ((wayfinderref01_Cut.f k a0 a2).bind fun bt202 => (some (bt200.1 == bt202.1 && (bt200.2 == bt202.2))))) else (some false)))) else (some false)))) else (some false)))) else (some false))
theorem wayfinderlaw01_BitsTell.mono : ∀ a0 a1 a2 k, LeO (wayfinderlaw01_BitsTell.f k a0 a1 a2) (wayfinderlaw01_BitsTell.f (k + 1) a0 a1 a2) := by
  intro a0 a1 a2 k
  unfold wayfinderlaw01_BitsTell.f
  repeat' first
      | (with_reducible exact wayfinderref01_Bit.mono _ _ _)
      | (with_reducible exact wayfinderref01_Common.mono _ _ _)
      | (with_reducible exact wayfinderref01_Cut.mono _ _ _)
      | (with_reducible exact wayfinderref01_Mask.mono _ _)
      | (with_reducible exact LeO.refl _)
      | (with_reducible exact LeO.none _)
      | (with_reducible refine LeO.ite ?_ ?_)
      | (with_reducible refine LeO.bind ?_ (fun _ => ?_))
      | exact wayfinderref01_Bit.mono _ _ _
      | exact wayfinderref01_Common.mono _ _ _
      | exact wayfinderref01_Cut.mono _ _ _
      | exact wayfinderref01_Mask.mono _ _
      | exact LeO.none _
      | refine LeO.ite ?_ ?_
      | refine LeO.bind ?_ (fun _ => ?_)
set_option maxHeartbeats 8000000 in
set_option maxRecDepth 100000 in
theorem wayfinderlaw01_BitsTell.calls (k : Nat) (a0 : Int) (a1 : Int) (a2 : Int) (r : Bool) (w : World) (h : wayfinderlaw01_BitsTell.f k a0 a1 a2 = some r) :
    Calls Try.prog 8 #[.int .i64 a0, .int .i64 a1, .int .i64 a2] w fun e w' => e = .returned (.bool r) ∧ Below w.heap.size w w' := by
  have HB := Aside0.mk (Below.refl w.heap.size w)
  have H : ((wayfinderlaw01_awake.f).bind fun t193 => (if t193 = true then ((bits_Bit.f a0 a2).bind fun t194 => ((wayfinderref01_Bit.f k a0 a2).bind fun t195 => (if t194 = t195 then ((bits_Common.f a0 a1).bind fun t196 => ((wayfinderref01_Common.f k a0 a1).bind fun t197 => (if t196 = t197 then ((bits_Mask.f a2).bind fun t198 => ((wayfinderref01_Mask.f k a2).bind fun t199 => (if t198 = t199 then ((bits_Cut.f a0 a2).bind fun bt200 => ((wayfinderref01_Cut.f k a0 a2).bind fun bt202 => (some (bt200.1 == bt202.1 && (bt200.2 == bt202.2))))) else (some false)))) else (some false)))) else (some false)))) else (some false))) = some r := h
  clear h
  replace H := Option.bind_eq_some_iff.mp H
  obtain ⟨t193, A40, H⟩ := H
  replace H : (if t193 = true then ((bits_Bit.f a0 a2).bind fun t194 => ((wayfinderref01_Bit.f k a0 a2).bind fun t195 => (if t194 = t195 then ((bits_Common.f a0 a1).bind fun t196 => ((wayfinderref01_Common.f k a0 a1).bind fun t197 => (if t196 = t197 then ((bits_Mask.f a2).bind fun t198 => ((wayfinderref01_Mask.f k a2).bind fun t199 => (if t198 = t199 then ((bits_Cut.f a0 a2).bind fun bt200 => ((wayfinderref01_Cut.f k a0 a2).bind fun bt202 => (some (bt200.1 == bt202.1 && (bt200.2 == bt202.2))))) else (some false)))) else (some false)))) else (some false)))) else (some false)) = some r := H
  have A4 := Aside0.mk A40
  clear A40
  by_cases c5 : t193 = true
  · subst c5
    have H1 : ((bits_Bit.f a0 a2).bind fun t194 => ((wayfinderref01_Bit.f k a0 a2).bind fun t195 => (if t194 = t195 then ((bits_Common.f a0 a1).bind fun t196 => ((wayfinderref01_Common.f k a0 a1).bind fun t197 => (if t196 = t197 then ((bits_Mask.f a2).bind fun t198 => ((wayfinderref01_Mask.f k a2).bind fun t199 => (if t198 = t199 then ((bits_Cut.f a0 a2).bind fun bt200 => ((wayfinderref01_Cut.f k a0 a2).bind fun bt202 => (some (bt200.1 == bt202.1 && (bt200.2 == bt202.2))))) else (some false)))) else (some false)))) else (some false)))) = some r := by rw [if_pos rfl] at H; exact H
    clear H
    have H := H1
    clear H1
    replace H := Option.bind_eq_some_iff.mp H
    obtain ⟨t194, A60, H⟩ := H
    replace H : ((wayfinderref01_Bit.f k a0 a2).bind fun t195 => (if t194 = t195 then ((bits_Common.f a0 a1).bind fun t196 => ((wayfinderref01_Common.f k a0 a1).bind fun t197 => (if t196 = t197 then ((bits_Mask.f a2).bind fun t198 => ((wayfinderref01_Mask.f k a2).bind fun t199 => (if t198 = t199 then ((bits_Cut.f a0 a2).bind fun bt200 => ((wayfinderref01_Cut.f k a0 a2).bind fun bt202 => (some (bt200.1 == bt202.1 && (bt200.2 == bt202.2))))) else (some false)))) else (some false)))) else (some false))) = some r := H
    have A6 := Aside0.mk A60
    clear A60
    replace H := Option.bind_eq_some_iff.mp H
    obtain ⟨t195, A70, H⟩ := H
    replace H : (if t194 = t195 then ((bits_Common.f a0 a1).bind fun t196 => ((wayfinderref01_Common.f k a0 a1).bind fun t197 => (if t196 = t197 then ((bits_Mask.f a2).bind fun t198 => ((wayfinderref01_Mask.f k a2).bind fun t199 => (if t198 = t199 then ((bits_Cut.f a0 a2).bind fun bt200 => ((wayfinderref01_Cut.f k a0 a2).bind fun bt202 => (some (bt200.1 == bt202.1 && (bt200.2 == bt202.2))))) else (some false)))) else (some false)))) else (some false)) = some r := H
    have A7 := Aside0.mk A70
    clear A70
    by_cases c8 : t194 = t195
    · rw [if_pos c8] at H
      have c8b0 : (t194 == t195) = true := beq_iff_eq.mpr c8
      have c8b1 : (t194 != t195) = false := bne_eq_false_iff_eq.mpr c8
      clear c8
      replace H := Option.bind_eq_some_iff.mp H
      obtain ⟨t196, A90, H⟩ := H
      replace H : ((wayfinderref01_Common.f k a0 a1).bind fun t197 => (if t196 = t197 then ((bits_Mask.f a2).bind fun t198 => ((wayfinderref01_Mask.f k a2).bind fun t199 => (if t198 = t199 then ((bits_Cut.f a0 a2).bind fun bt200 => ((wayfinderref01_Cut.f k a0 a2).bind fun bt202 => (some (bt200.1 == bt202.1 && (bt200.2 == bt202.2))))) else (some false)))) else (some false))) = some r := H
      have A9 := Aside0.mk A90
      clear A90
      replace H := Option.bind_eq_some_iff.mp H
      obtain ⟨t197, A100, H⟩ := H
      replace H : (if t196 = t197 then ((bits_Mask.f a2).bind fun t198 => ((wayfinderref01_Mask.f k a2).bind fun t199 => (if t198 = t199 then ((bits_Cut.f a0 a2).bind fun bt200 => ((wayfinderref01_Cut.f k a0 a2).bind fun bt202 => (some (bt200.1 == bt202.1 && (bt200.2 == bt202.2))))) else (some false)))) else (some false)) = some r := H
      have A10 := Aside0.mk A100
      clear A100
      by_cases c11 : t196 = t197
      · rw [if_pos c11] at H
        have c11b0 : (t196 == t197) = true := beq_iff_eq.mpr c11
        have c11b1 : (t196 != t197) = false := bne_eq_false_iff_eq.mpr c11
        clear c11
        replace H := Option.bind_eq_some_iff.mp H
        obtain ⟨t198, A120, H⟩ := H
        replace H : ((wayfinderref01_Mask.f k a2).bind fun t199 => (if t198 = t199 then ((bits_Cut.f a0 a2).bind fun bt200 => ((wayfinderref01_Cut.f k a0 a2).bind fun bt202 => (some (bt200.1 == bt202.1 && (bt200.2 == bt202.2))))) else (some false))) = some r := H
        have A12 := Aside0.mk A120
        clear A120
        replace H := Option.bind_eq_some_iff.mp H
        obtain ⟨t199, A130, H⟩ := H
        replace H : (if t198 = t199 then ((bits_Cut.f a0 a2).bind fun bt200 => ((wayfinderref01_Cut.f k a0 a2).bind fun bt202 => (some (bt200.1 == bt202.1 && (bt200.2 == bt202.2))))) else (some false)) = some r := H
        have A13 := Aside0.mk A130
        clear A130
        by_cases c14 : t198 = t199
        · rw [if_pos c14] at H
          have c14b0 : (t198 == t199) = true := beq_iff_eq.mpr c14
          have c14b1 : (t198 != t199) = false := bne_eq_false_iff_eq.mpr c14
          clear c14
          replace H := Option.bind_eq_some_iff.mp H
          obtain ⟨⟨t200, t201⟩, A150, H⟩ := H
          replace H : ((wayfinderref01_Cut.f k a0 a2).bind fun bt202 => (some (t200 == bt202.1 && (t201 == bt202.2)))) = some r := H
          have A15 := Aside0.mk A150
          clear A150
          replace H := Option.bind_eq_some_iff.mp H
          obtain ⟨⟨t202, t203⟩, A160, H⟩ := H
          replace H : (some (t200 == t202 && (t201 == t203))) = some r := H
          have A16 := Aside0.mk A160
          clear A160
          obtain rfl := Option.some.inj H
          go_enter Try.func8, Try.ntmps8
          go_wp2_with (first | ((with_reducible refine gate_callee (f := 11) rfl ?_); refine goesL_ (some 8) rfl rfl Try.func11 (by kernel_rfl) rfl #[] rfl (by (try simp only [List.map_toArray, List.map_cons, List.map_nil]); first | done | rfl | (simp only [List.length_drop, List.length_take]; rfl)) ?_; (with_reducible refine (wayfinderlaw01_awake.calls  true _ A4.out).mono ?_); rintro e w17 ⟨rfl, hb⟩; refine ⟨_, rfl, ?_⟩; have n0_ := Aside0.mk (below_step (by repeat (first | (with_reducible first | exact HB.out | apply below_alloc | apply pw_below_drewN | apply below_drew1) | exact HB.out)) hb); clear HB; have HB := n0_; clear n0_; (try clear hb); (try clear hb2); (try clear hk); (try clear hi)) | (go_at_call 22; (with_reducible refine (bits_Bit.calls a0 a2 t194 _ A6.out).mono ?_); rintro e w' ⟨rfl, ⟨nd, rfl⟩⟩) | (go_at_call 23; (with_reducible refine (wayfinderref01_Bit.calls k a0 a2 t195 _ A7.out).mono ?_); rintro e w' ⟨rfl, ⟨nd, rfl⟩⟩) | (go_at_call 15; (with_reducible refine (bits_Common.calls a0 a1 t196 _ A9.out).mono ?_); rintro e w' ⟨rfl, ⟨nd, rfl⟩⟩) | (go_at_call 24; (with_reducible refine (wayfinderref01_Common.calls k a0 a1 t197 _ A10.out).mono ?_); rintro e w' ⟨rfl, ⟨nd, rfl⟩⟩) | (go_at_call 13; (with_reducible refine (bits_Mask.calls a2 t198 _ A12.out).mono ?_); rintro e w18 ⟨rfl, hb⟩; have n0_ := Aside0.mk (below_step (by repeat (first | (with_reducible first | exact HB.out | apply below_alloc | apply pw_below_drewN | apply below_drew1) | exact HB.out)) hb); clear HB; have HB := n0_; clear n0_; (try clear hb); (try clear hb2); (try clear hk); (try clear hi)) | (go_at_call 14; (with_reducible refine (wayfinderref01_Mask.calls k a2 t199 _ A13.out).mono ?_); rintro e w' ⟨rfl, ⟨nd, rfl⟩⟩) | (go_at_call 12; (with_reducible refine (bits_Cut.calls a0 a2 t200 t201 _ A15.out).mono ?_); rintro e w19 ⟨rfl, hb⟩; have n0_ := Aside0.mk (below_step (by repeat (first | (with_reducible first | exact HB.out | apply below_alloc | apply pw_below_drewN | apply below_drew1) | exact HB.out)) hb); clear HB; have HB := n0_; clear n0_; (try clear hb); (try clear hb2); (try clear hk); (try clear hi)) | (go_at_call 25; (with_reducible refine (wayfinderref01_Cut.calls k a0 a2 t202 t203 _ A16.out).mono ?_); rintro e w20 ⟨rfl, hb⟩; have n0_ := Aside0.mk (below_step (by repeat (first | (with_reducible first | exact HB.out | apply below_alloc | apply pw_below_drewN | apply below_drew1) | exact HB.out)) hb); clear HB; have HB := n0_; clear n0_; (try clear hb); (try clear hb2); (try clear hk); (try clear hi)))
          go_ret
          exact ⟨by first | rfl | (simp [errW_none, errW_some] <;> rfl) | (simp [*, errW_none, errW_some] <;> rfl), by repeat (first | (with_reducible first | exact HB.out | apply below_alloc | apply pw_below_drewN | apply below_drew1) | exact HB.out)⟩
        · rw [if_neg c14] at H
          have c14b0 : (t198 == t199) = false := beq_eq_false_iff_ne.mpr c14
          have c14b1 : (t198 != t199) = true := bne_iff_ne.mpr c14
          obtain rfl := Option.some.inj H
          go_enter Try.func8, Try.ntmps8
          go_wp2_with (first | ((with_reducible refine gate_callee (f := 11) rfl ?_); refine goesL_ (some 8) rfl rfl Try.func11 (by kernel_rfl) rfl #[] rfl (by (try simp only [List.map_toArray, List.map_cons, List.map_nil]); first | done | rfl | (simp only [List.length_drop, List.length_take]; rfl)) ?_; (with_reducible refine (wayfinderlaw01_awake.calls  true _ A4.out).mono ?_); rintro e w21 ⟨rfl, hb⟩; refine ⟨_, rfl, ?_⟩; have n0_ := Aside0.mk (below_step (by repeat (first | (with_reducible first | exact HB.out | apply below_alloc | apply pw_below_drewN | apply below_drew1) | exact HB.out)) hb); clear HB; have HB := n0_; clear n0_; (try clear hb); (try clear hb2); (try clear hk); (try clear hi)) | (go_at_call 22; (with_reducible refine (bits_Bit.calls a0 a2 t194 _ A6.out).mono ?_); rintro e w' ⟨rfl, ⟨nd, rfl⟩⟩) | (go_at_call 23; (with_reducible refine (wayfinderref01_Bit.calls k a0 a2 t195 _ A7.out).mono ?_); rintro e w' ⟨rfl, ⟨nd, rfl⟩⟩) | (go_at_call 15; (with_reducible refine (bits_Common.calls a0 a1 t196 _ A9.out).mono ?_); rintro e w' ⟨rfl, ⟨nd, rfl⟩⟩) | (go_at_call 24; (with_reducible refine (wayfinderref01_Common.calls k a0 a1 t197 _ A10.out).mono ?_); rintro e w' ⟨rfl, ⟨nd, rfl⟩⟩) | (go_at_call 13; (with_reducible refine (bits_Mask.calls a2 t198 _ A12.out).mono ?_); rintro e w22 ⟨rfl, hb⟩; have n0_ := Aside0.mk (below_step (by repeat (first | (with_reducible first | exact HB.out | apply below_alloc | apply pw_below_drewN | apply below_drew1) | exact HB.out)) hb); clear HB; have HB := n0_; clear n0_; (try clear hb); (try clear hb2); (try clear hk); (try clear hi)) | (go_at_call 14; (with_reducible refine (wayfinderref01_Mask.calls k a2 t199 _ A13.out).mono ?_); rintro e w' ⟨rfl, ⟨nd, rfl⟩⟩))
          go_ret
          exact ⟨by first | rfl | (simp [errW_none, errW_some] <;> rfl) | (simp [*, errW_none, errW_some] <;> rfl), by repeat (first | (with_reducible first | exact HB.out | apply below_alloc | apply pw_below_drewN | apply below_drew1) | exact HB.out)⟩
      · rw [if_neg c11] at H
        have c11b0 : (t196 == t197) = false := beq_eq_false_iff_ne.mpr c11
        have c11b1 : (t196 != t197) = true := bne_iff_ne.mpr c11
        obtain rfl := Option.some.inj H
        go_enter Try.func8, Try.ntmps8
        go_wp2_with (first | ((with_reducible refine gate_callee (f := 11) rfl ?_); refine goesL_ (some 8) rfl rfl Try.func11 (by kernel_rfl) rfl #[] rfl (by (try simp only [List.map_toArray, List.map_cons, List.map_nil]); first | done | rfl | (simp only [List.length_drop, List.length_take]; rfl)) ?_; (with_reducible refine (wayfinderlaw01_awake.calls  true _ A4.out).mono ?_); rintro e w23 ⟨rfl, hb⟩; refine ⟨_, rfl, ?_⟩; have n0_ := Aside0.mk (below_step (by repeat (first | (with_reducible first | exact HB.out | apply below_alloc | apply pw_below_drewN | apply below_drew1) | exact HB.out)) hb); clear HB; have HB := n0_; clear n0_; (try clear hb); (try clear hb2); (try clear hk); (try clear hi)) | (go_at_call 22; (with_reducible refine (bits_Bit.calls a0 a2 t194 _ A6.out).mono ?_); rintro e w' ⟨rfl, ⟨nd, rfl⟩⟩) | (go_at_call 23; (with_reducible refine (wayfinderref01_Bit.calls k a0 a2 t195 _ A7.out).mono ?_); rintro e w' ⟨rfl, ⟨nd, rfl⟩⟩) | (go_at_call 15; (with_reducible refine (bits_Common.calls a0 a1 t196 _ A9.out).mono ?_); rintro e w' ⟨rfl, ⟨nd, rfl⟩⟩) | (go_at_call 24; (with_reducible refine (wayfinderref01_Common.calls k a0 a1 t197 _ A10.out).mono ?_); rintro e w' ⟨rfl, ⟨nd, rfl⟩⟩))
        go_ret
        exact ⟨by first | rfl | (simp [errW_none, errW_some] <;> rfl) | (simp [*, errW_none, errW_some] <;> rfl), by repeat (first | (with_reducible first | exact HB.out | apply below_alloc | apply pw_below_drewN | apply below_drew1) | exact HB.out)⟩
    · rw [if_neg c8] at H
      have c8b0 : (t194 == t195) = false := beq_eq_false_iff_ne.mpr c8
      have c8b1 : (t194 != t195) = true := bne_iff_ne.mpr c8
      obtain rfl := Option.some.inj H
      go_enter Try.func8, Try.ntmps8
      go_wp2_with (first | ((with_reducible refine gate_callee (f := 11) rfl ?_); refine goesL_ (some 8) rfl rfl Try.func11 (by kernel_rfl) rfl #[] rfl (by (try simp only [List.map_toArray, List.map_cons, List.map_nil]); first | done | rfl | (simp only [List.length_drop, List.length_take]; rfl)) ?_; (with_reducible refine (wayfinderlaw01_awake.calls  true _ A4.out).mono ?_); rintro e w24 ⟨rfl, hb⟩; refine ⟨_, rfl, ?_⟩; have n0_ := Aside0.mk (below_step (by repeat (first | (with_reducible first | exact HB.out | apply below_alloc | apply pw_below_drewN | apply below_drew1) | exact HB.out)) hb); clear HB; have HB := n0_; clear n0_; (try clear hb); (try clear hb2); (try clear hk); (try clear hi)) | (go_at_call 22; (with_reducible refine (bits_Bit.calls a0 a2 t194 _ A6.out).mono ?_); rintro e w' ⟨rfl, ⟨nd, rfl⟩⟩) | (go_at_call 23; (with_reducible refine (wayfinderref01_Bit.calls k a0 a2 t195 _ A7.out).mono ?_); rintro e w' ⟨rfl, ⟨nd, rfl⟩⟩))
      go_ret
      exact ⟨by first | rfl | (simp [errW_none, errW_some] <;> rfl) | (simp [*, errW_none, errW_some] <;> rfl), by repeat (first | (with_reducible first | exact HB.out | apply below_alloc | apply pw_below_drewN | apply below_drew1) | exact HB.out)⟩
  · replace c5 := Bool.eq_false_iff.mpr c5
    subst c5
    have H1 : (some false) = some r := by rw [if_neg (show ¬ (false = true) by decide)] at H; exact H
    clear H
    have H := H1
    clear H1
    obtain rfl := Option.some.inj H
    go_enter Try.func8, Try.ntmps8
    go_wp2_with (first | ((with_reducible refine gate_callee (f := 11) rfl ?_); refine goesL_ (some 8) rfl rfl Try.func11 (by kernel_rfl) rfl #[] rfl (by (try simp only [List.map_toArray, List.map_cons, List.map_nil]); first | done | rfl | (simp only [List.length_drop, List.length_take]; rfl)) ?_; (with_reducible refine (wayfinderlaw01_awake.calls  false _ A4.out).mono ?_); rintro e w25 ⟨rfl, hb⟩; refine ⟨_, rfl, ?_⟩; have n0_ := Aside0.mk (below_step (by repeat (first | (with_reducible first | exact HB.out | apply below_alloc | apply pw_below_drewN | apply below_drew1) | exact HB.out)) hb); clear HB; have HB := n0_; clear n0_; (try clear hb); (try clear hb2); (try clear hk); (try clear hi)))
    go_ret
    exact ⟨by first | rfl | (simp [errW_none, errW_some] <;> rfl) | (simp [*, errW_none, errW_some] <;> rfl), by repeat (first | (with_reducible first | exact HB.out | apply below_alloc | apply pw_below_drewN | apply below_drew1) | exact HB.out)⟩

/-- THE ONE PURE STATEMENT of wayfinderlaw01_BitsTell: yours. -/
def wayfinderlaw01_BitsTell.Pure : Prop := ∀ (a0 : Int) (a1 : Int) (a2 : Int), (Lit.int .i64 a0).wf = true → (Lit.int .i64 a1).wf = true → (Lit.int .i64 a2).wf = true → ∃ k, wayfinderlaw01_BitsTell.f k a0 a1 a2 = some true
theorem wayfinderlaw01_BitsTell.walk (P : wayfinderlaw01_BitsTell.Pure) (a0 : Int) (a1 : Int) (a2 : Int) (w : World) (w0 : (Lit.int .i64 a0).wf = true) (w1 : (Lit.int .i64 a1).wf = true) (w2 : (Lit.int .i64 a2).wf = true) :
    Calls Try.prog 8 #[.int .i64 a0, .int .i64 a1, .int .i64 a2] w fun e w' => e = .returned (.bool true) ∧ Below w.heap.size w w' := by
  obtain ⟨k, h⟩ := P a0 a1 a2 w0 w1 w2
  refine (wayfinderlaw01_BitsTell.calls k a0 a1 a2 true w h).mono ?_
  rintro e w' ⟨rfl, hd⟩
  exact ⟨rfl, hd⟩

end Go.Proofs.Ytbecakaajbkofaa.All
