/- Contracts of Go functions that this seat comes to, each with a plain function that tells its answers; conditions: those that each contract names. Written by a program of this session (wip/print) over the print words. -/
import Derived.Test.YtpaoofkahhhjaaaDoorQ5Allx0
import Derived.Test.YtpaoofkahhhjaaaDoorQ5Allx1
import Derived.Test.YtpaoofkahhhjaaaDoorQ5Allx2
import Derived.Test.YtpaoofkahhhjaaaDoorQ5Allx5
namespace Go.Proofs.YtpaoofkahhhjaaaDoor.All
open Go.RowKit Go.Proofs.YtpaoofkahhhjaaaDoorW.PrintWords Go.Proofs.YtpaoofkahhhjaaaDoorW.PrintLast Go.Proofs.YtpaoofkahhhjaaaDoorW.PrintMore
attribute [local go_sem] max2_int min2_int max_two min_two max_three min_three max_four min_four
set_option linter.unusedVariables false
set_option linter.unusedSimpArgs false
attribute [local go_sem high] eqA25
def rule_May.f (a0_0 : Int) (a0_1 : Int) (a0_2 : Int) (a0_3 : Int) (a0_4 : Int) (a0_5 : Int) : Option (Bool) := if (a0_4 == 0 && (a0_5 == 0)) = true then ((bits_May.f a0_0 a0_1).bind fun t105 => (if t105 = true then (if a0_2 ≥ (-1) then (if a0_2 ≤ 7 then (if a0_3 ≥ 0 then (some (decide (a0_3 ≤ 255))) else (some false)) else (some false)) else (some false)) else (some false))) else (if a0_4 = 1 then (if a0_5 ≥ 0 then (if a0_5 ≤ 7 then ((bits_May.f a0_0 a0_1).bind fun t106 => (if t106 = true then (if a0_2 ≥ (-1) then (if a0_2 ≤ 7 then (if a0_3 ≥ 0 then (some (decide (a0_3 ≤ 255))) else (some false)) else (some false)) else (some false)) else (some false))) else (some false)) else (some false)) else (some false))
set_option maxHeartbeats 8000000 in
set_option maxRecDepth 100000 in
theorem rule_May.calls (a0_0 : Int) (a0_1 : Int) (a0_2 : Int) (a0_3 : Int) (a0_4 : Int) (a0_5 : Int) (r : Bool) (w : World) (h : rule_May.f a0_0 a0_1 a0_2 a0_3 a0_4 a0_5 = some r) :
  Calls Tryd.prog 32 #[.agg #[.int .i64 a0_0, .int .i64 a0_1, .int .i64 a0_2, .int .i64 a0_3, .int .i64 a0_4, .int .i64 a0_5]] w fun e w' => e = .returned (.bool r) ∧ Below w.heap.size w w' := by
 have hu27 := Tryd.underlying27
 have hu25 := Tryd.underlying25
 have hu23 := Tryd.underlying23
 have HB := Aside0.mk (Below.refl w.heap.size w)
 have H : (if (a0_4 == 0 && (a0_5 == 0)) = true then ((bits_May.f a0_0 a0_1).bind fun t105 => (if t105 = true then (if a0_2 ≥ (-1) then (if a0_2 ≤ 7 then (if a0_3 ≥ 0 then (some (decide (a0_3 ≤ 255))) else (some false)) else (some false)) else (some false)) else (some false))) else (if a0_4 = 1 then (if a0_5 ≥ 0 then (if a0_5 ≤ 7 then ((bits_May.f a0_0 a0_1).bind fun t106 => (if t106 = true then (if a0_2 ≥ (-1) then (if a0_2 ≤ 7 then (if a0_3 ≥ 0 then (some (decide (a0_3 ≤ 255))) else (some false)) else (some false)) else (some false)) else (some false))) else (some false)) else (some false)) else (some false))) = some r := h
 clear h
 by_cases c2 : (a0_4 == 0 && (a0_5 == 0)) = true
 ·rw [if_pos c2] at H
  have c2b0 : (a0_4 == 0 && (a0_5 == 0)) = true := c2
  (try (have c2b1 : decide (a0_4 = 0 && (a0_5 == 0)) = true := by simpa using c2))
  (try (have c2b2 : (a0_4 == 0 && (a0_5 == 0)) = true := by simpa using c2))
  clear c2
  replace H := Option.bind_eq_some_iff.mp H
  obtain ⟨t105, A30, H⟩ := H
  replace H : (if t105 = true then (if a0_2 ≥ (-1) then (if a0_2 ≤ 7 then (if a0_3 ≥ 0 then (some (decide (a0_3 ≤ 255))) else (some false)) else (some false)) else (some false)) else (some false)) = some r := H
  have A3 := Aside0.mk A30
  clear A30
  by_cases c4 : t105 = true
  ·subst c4
   have H1 : (if a0_2 ≥ (-1) then (if a0_2 ≤ 7 then (if a0_3 ≥ 0 then (some (decide (a0_3 ≤ 255))) else (some false)) else (some false)) else (some false)) = some r := by rw [if_pos rfl] at H; exact H
   clear H
   have H := H1
   clear H1
   by_cases c5 : a0_2 ≥ (-1)
   ·rw [if_pos c5] at H
    have c5b0 : decide ((-1) ≤ a0_2) = true := decide_eq_true c5
    clear c5
    by_cases c6 : a0_2 ≤ 7
    ·rw [if_pos c6] at H
     have c6b0 : decide (a0_2 ≤ 7) = true := decide_eq_true c6
     clear c6
     by_cases c7 : a0_3 ≥ 0
     ·rw [if_pos c7] at H
      have c7b0 : decide (0 ≤ a0_3) = true := decide_eq_true c7
      clear c7
      obtain rfl := Option.some.inj H
      go_enter Tryd.func32, Tryd.ntmps32
      go_wp2_with (first | ((with_reducible refine qqs (N := 1) rfl ?_); refine box_event ?hg (N := 1) ?hd (cs := #[.int .i64 a0_0, .int .i64 a0_1, .int .i64 a0_2, .int .i64 a0_3, .int .i64 a0_4, .int .i64 a0_5]) (t := 27) ?hr ?_; (case hd => rfl); (case hg => rfl); (case hr => first | (go_simp; done) | (go_simp; rfl)); intro Qx hg w8 hbox hb; have n0_ := bst HB hb; have n1_ := Aside0.mk (hbox); have n2_ := szl HB hg; have n3_ := szl HB hg; clear HB; have HB := n0_; have Q0 := n1_; have Qy := n2_; have GE104 := n3_; clear n0_ n1_ n2_ n3_; clear hb hbox hg; obtain ⟨_, _, _, _, _, _⟩ := bcells6 Q0.out; obtain ⟨_, _, _, _, _, _⟩ := bfrozen6 Q0.out) | (go_at_call 43; (with_reducible refine (bits_May.calls a0_0 a0_1 true _ A3.out).mono ?_); rintro e w10 ⟨rfl, hb⟩; replace Q0 := bbl Q0 hb; replace HB := bst HB hb; (try clear hb); obtain ⟨_, _, _, _, _, _⟩ := bcells6 Q0.out; obtain ⟨_, _, _, _, _, _⟩ := bfrozen6 Q0.out))
      go_ret
      exact ⟨by first | rfl | (simp [qqj, qqi] <;> rfl) | (simp [*, qqj, qqi] <;> rfl), by repeat (first | (with_reducible first | exact HB.out | apply qqc | apply qqa | apply qqb | refine qqd ?_ GE104.out) | exact HB.out)⟩
     ·rw [if_neg c7] at H
      have c7b0 : decide (0 ≤ a0_3) = false := decide_eq_false c7
      clear c7
      obtain rfl := Option.some.inj H
      go_enter Tryd.func32, Tryd.ntmps32
      go_wp2_with (first | ((with_reducible refine qqs (N := 1) rfl ?_); refine box_event ?hg (N := 1) ?hd (cs := #[.int .i64 a0_0, .int .i64 a0_1, .int .i64 a0_2, .int .i64 a0_3, .int .i64 a0_4, .int .i64 a0_5]) (t := 27) ?hr ?_; (case hd => rfl); (case hg => rfl); (case hr => first | (go_simp; done) | (go_simp; rfl)); intro Qx hg w12 hbox hb; have n0_ := bst HB hb; have n1_ := Aside0.mk (hbox); have n2_ := szl HB hg; have n3_ := szl HB hg; clear HB; have HB := n0_; have Q0 := n1_; have Qy := n2_; have GE104 := n3_; clear n0_ n1_ n2_ n3_; clear hb hbox hg; obtain ⟨_, _, _, _, _, _⟩ := bcells6 Q0.out; obtain ⟨_, _, _, _, _, _⟩ := bfrozen6 Q0.out) | (go_at_call 43; (with_reducible refine (bits_May.calls a0_0 a0_1 true _ A3.out).mono ?_); rintro e w14 ⟨rfl, hb⟩; replace Q0 := bbl Q0 hb; replace HB := bst HB hb; (try clear hb); obtain ⟨_, _, _, _, _, _⟩ := bcells6 Q0.out; obtain ⟨_, _, _, _, _, _⟩ := bfrozen6 Q0.out))
      go_ret
      exact ⟨by first | rfl | (simp [qqj, qqi] <;> rfl) | (simp [*, qqj, qqi] <;> rfl), by repeat (first | (with_reducible first | exact HB.out | apply qqc | apply qqa | apply qqb | refine qqd ?_ GE104.out) | exact HB.out)⟩
    ·rw [if_neg c6] at H
     have c6b0 : decide (a0_2 ≤ 7) = false := decide_eq_false c6
     clear c6
     obtain rfl := Option.some.inj H
     go_enter Tryd.func32, Tryd.ntmps32
     go_wp2_with (first | ((with_reducible refine qqs (N := 1) rfl ?_); refine box_event ?hg (N := 1) ?hd (cs := #[.int .i64 a0_0, .int .i64 a0_1, .int .i64 a0_2, .int .i64 a0_3, .int .i64 a0_4, .int .i64 a0_5]) (t := 27) ?hr ?_; (case hd => rfl); (case hg => rfl); (case hr => first | (go_simp; done) | (go_simp; rfl)); intro Qx hg w16 hbox hb; have n0_ := bst HB hb; have n1_ := Aside0.mk (hbox); have n2_ := szl HB hg; have n3_ := szl HB hg; clear HB; have HB := n0_; have Q0 := n1_; have Qy := n2_; have GE104 := n3_; clear n0_ n1_ n2_ n3_; clear hb hbox hg; obtain ⟨_, _, _, _, _, _⟩ := bcells6 Q0.out; obtain ⟨_, _, _, _, _, _⟩ := bfrozen6 Q0.out) | (go_at_call 43; (with_reducible refine (bits_May.calls a0_0 a0_1 true _ A3.out).mono ?_); rintro e w18 ⟨rfl, hb⟩; replace Q0 := bbl Q0 hb; replace HB := bst HB hb; (try clear hb); obtain ⟨_, _, _, _, _, _⟩ := bcells6 Q0.out; obtain ⟨_, _, _, _, _, _⟩ := bfrozen6 Q0.out))
     go_ret
     exact ⟨by first | rfl | (simp [qqj, qqi] <;> rfl) | (simp [*, qqj, qqi] <;> rfl), by repeat (first | (with_reducible first | exact HB.out | apply qqc | apply qqa | apply qqb | refine qqd ?_ GE104.out) | exact HB.out)⟩
   ·rw [if_neg c5] at H
    have c5b0 : decide ((-1) ≤ a0_2) = false := decide_eq_false c5
    clear c5
    obtain rfl := Option.some.inj H
    go_enter Tryd.func32, Tryd.ntmps32
    go_wp2_with (first | ((with_reducible refine qqs (N := 1) rfl ?_); refine box_event ?hg (N := 1) ?hd (cs := #[.int .i64 a0_0, .int .i64 a0_1, .int .i64 a0_2, .int .i64 a0_3, .int .i64 a0_4, .int .i64 a0_5]) (t := 27) ?hr ?_; (case hd => rfl); (case hg => rfl); (case hr => first | (go_simp; done) | (go_simp; rfl)); intro Qx hg w20 hbox hb; have n0_ := bst HB hb; have n1_ := Aside0.mk (hbox); have n2_ := szl HB hg; have n3_ := szl HB hg; clear HB; have HB := n0_; have Q0 := n1_; have Qy := n2_; have GE104 := n3_; clear n0_ n1_ n2_ n3_; clear hb hbox hg; obtain ⟨_, _, _, _, _, _⟩ := bcells6 Q0.out; obtain ⟨_, _, _, _, _, _⟩ := bfrozen6 Q0.out) | (go_at_call 43; (with_reducible refine (bits_May.calls a0_0 a0_1 true _ A3.out).mono ?_); rintro e w22 ⟨rfl, hb⟩; replace Q0 := bbl Q0 hb; replace HB := bst HB hb; (try clear hb); obtain ⟨_, _, _, _, _, _⟩ := bcells6 Q0.out; obtain ⟨_, _, _, _, _, _⟩ := bfrozen6 Q0.out))
    go_ret
    exact ⟨by first | rfl | (simp [qqj, qqi] <;> rfl) | (simp [*, qqj, qqi] <;> rfl), by repeat (first | (with_reducible first | exact HB.out | apply qqc | apply qqa | apply qqb | refine qqd ?_ GE104.out) | exact HB.out)⟩
  ·replace c4 := Bool.eq_false_iff.mpr c4
   subst c4
   have H1 : (some false) = some r := by rw [if_neg (show ¬ (false = true) by decide)] at H; exact H
   clear H
   have H := H1
   clear H1
   obtain rfl := Option.some.inj H
   go_enter Tryd.func32, Tryd.ntmps32
   go_wp2_with (first | ((with_reducible refine qqs (N := 1) rfl ?_); refine box_event ?hg (N := 1) ?hd (cs := #[.int .i64 a0_0, .int .i64 a0_1, .int .i64 a0_2, .int .i64 a0_3, .int .i64 a0_4, .int .i64 a0_5]) (t := 27) ?hr ?_; (case hd => rfl); (case hg => rfl); (case hr => first | (go_simp; done) | (go_simp; rfl)); intro Qx hg w24 hbox hb; have n0_ := bst HB hb; have n1_ := Aside0.mk (hbox); have n2_ := szl HB hg; have n3_ := szl HB hg; clear HB; have HB := n0_; have Q0 := n1_; have Qy := n2_; have GE104 := n3_; clear n0_ n1_ n2_ n3_; clear hb hbox hg; obtain ⟨_, _, _, _, _, _⟩ := bcells6 Q0.out; obtain ⟨_, _, _, _, _, _⟩ := bfrozen6 Q0.out) | (go_at_call 43; (with_reducible refine (bits_May.calls a0_0 a0_1 false _ A3.out).mono ?_); rintro e w26 ⟨rfl, hb⟩; replace Q0 := bbl Q0 hb; replace HB := bst HB hb; (try clear hb)))
   go_ret
   exact ⟨by first | rfl | (simp [qqj, qqi] <;> rfl) | (simp [*, qqj, qqi] <;> rfl), by repeat (first | (with_reducible first | exact HB.out | apply qqc | apply qqa | apply qqb | refine qqd ?_ GE104.out) | exact HB.out)⟩
 ·rw [if_neg c2] at H
  have c2b0 : (a0_4 == 0 && (a0_5 == 0)) = false := by simpa using c2
  (try (have c2b1 : decide (a0_4 = 0 && (a0_5 == 0)) = false := by simpa using c2))
  (try (have c2b2 : (a0_4 == 0 && (a0_5 == 0)) = false := by simpa using c2))
  (try (have c2b3 : ¬ (a0_4 = 0 && (a0_5 == 0)) := by simpa using c2))
  clear c2
  by_cases c27 : a0_4 = 1
  ·rw [if_pos c27] at H
   have c27b0 : (a0_4 == 1) = true := beq_iff_eq.mpr c27
   have c27b1 : (a0_4 != 1) = false := bne_eq_false_iff_eq.mpr c27
   clear c27
   by_cases c28 : a0_5 ≥ 0
   ·rw [if_pos c28] at H
    have c28b0 : decide (0 ≤ a0_5) = true := decide_eq_true c28
    clear c28
    by_cases c29 : a0_5 ≤ 7
    ·rw [if_pos c29] at H
     have c29b0 : decide (a0_5 ≤ 7) = true := decide_eq_true c29
     clear c29
     replace H := Option.bind_eq_some_iff.mp H
     obtain ⟨t106, A300, H⟩ := H
     replace H : (if t106 = true then (if a0_2 ≥ (-1) then (if a0_2 ≤ 7 then (if a0_3 ≥ 0 then (some (decide (a0_3 ≤ 255))) else (some false)) else (some false)) else (some false)) else (some false)) = some r := H
     have A30 := Aside0.mk A300
     clear A300
     by_cases c31 : t106 = true
     ·subst c31
      have H1 : (if a0_2 ≥ (-1) then (if a0_2 ≤ 7 then (if a0_3 ≥ 0 then (some (decide (a0_3 ≤ 255))) else (some false)) else (some false)) else (some false)) = some r := by rw [if_pos rfl] at H; exact H
      clear H
      have H := H1
      clear H1
      by_cases c32 : a0_2 ≥ (-1)
      ·rw [if_pos c32] at H
       have c32b0 : decide ((-1) ≤ a0_2) = true := decide_eq_true c32
       clear c32
       by_cases c33 : a0_2 ≤ 7
       ·rw [if_pos c33] at H
        have c33b0 : decide (a0_2 ≤ 7) = true := decide_eq_true c33
        clear c33
        by_cases c34 : a0_3 ≥ 0
        ·rw [if_pos c34] at H
         have c34b0 : decide (0 ≤ a0_3) = true := decide_eq_true c34
         clear c34
         obtain rfl := Option.some.inj H
         go_enter Tryd.func32, Tryd.ntmps32
         go_wp2_with (first | ((with_reducible refine qqs (N := 1) rfl ?_); refine box_event ?hg (N := 1) ?hd (cs := #[.int .i64 a0_0, .int .i64 a0_1, .int .i64 a0_2, .int .i64 a0_3, .int .i64 a0_4, .int .i64 a0_5]) (t := 27) ?hr ?_; (case hd => rfl); (case hg => rfl); (case hr => first | (go_simp; done) | (go_simp; rfl)); intro Qx hg w35 hbox hb; have n0_ := bst HB hb; have n1_ := Aside0.mk (hbox); have n2_ := szl HB hg; have n3_ := szl HB hg; clear HB; have HB := n0_; have Q0 := n1_; have Qy := n2_; have GE104 := n3_; clear n0_ n1_ n2_ n3_; clear hb hbox hg; obtain ⟨_, _, _, _, _, _⟩ := bcells6 Q0.out; obtain ⟨_, _, _, _, _, _⟩ := bfrozen6 Q0.out) | (go_at_call 43; (with_reducible refine (bits_May.calls a0_0 a0_1 true _ A30.out).mono ?_); rintro e w37 ⟨rfl, hb⟩; replace Q0 := bbl Q0 hb; replace HB := bst HB hb; (try clear hb); obtain ⟨_, _, _, _, _, _⟩ := bcells6 Q0.out; obtain ⟨_, _, _, _, _, _⟩ := bfrozen6 Q0.out))
         go_ret
         exact ⟨by first | rfl | (simp [qqj, qqi] <;> rfl) | (simp [*, qqj, qqi] <;> rfl), by repeat (first | (with_reducible first | exact HB.out | apply qqc | apply qqa | apply qqb | refine qqd ?_ GE104.out) | exact HB.out)⟩
        ·rw [if_neg c34] at H
         have c34b0 : decide (0 ≤ a0_3) = false := decide_eq_false c34
         clear c34
         obtain rfl := Option.some.inj H
         go_enter Tryd.func32, Tryd.ntmps32
         go_wp2_with (first | ((with_reducible refine qqs (N := 1) rfl ?_); refine box_event ?hg (N := 1) ?hd (cs := #[.int .i64 a0_0, .int .i64 a0_1, .int .i64 a0_2, .int .i64 a0_3, .int .i64 a0_4, .int .i64 a0_5]) (t := 27) ?hr ?_; (case hd => rfl); (case hg => rfl); (case hr => first | (go_simp; done) | (go_simp; rfl)); intro Qx hg w39 hbox hb; have n0_ := bst HB hb; have n1_ := Aside0.mk (hbox); have n2_ := szl HB hg; have n3_ := szl HB hg; clear HB; have HB := n0_; have Q0 := n1_; have Qy := n2_; have GE104 := n3_; clear n0_ n1_ n2_ n3_; clear hb hbox hg; obtain ⟨_, _, _, _, _, _⟩ := bcells6 Q0.out; obtain ⟨_, _, _, _, _, _⟩ := bfrozen6 Q0.out) | (go_at_call 43; (with_reducible refine (bits_May.calls a0_0 a0_1 true _ A30.out).mono ?_); rintro e w41 ⟨rfl, hb⟩; replace Q0 := bbl Q0 hb; replace HB := bst HB hb; (try clear hb); obtain ⟨_, _, _, _, _, _⟩ := bcells6 Q0.out; obtain ⟨_, _, _, _, _, _⟩ := bfrozen6 Q0.out))
         go_ret
         exact ⟨by first | rfl | (simp [qqj, qqi] <;> rfl) | (simp [*, qqj, qqi] <;> rfl), by repeat (first | (with_reducible first | exact HB.out | apply qqc | apply qqa | apply qqb | refine qqd ?_ GE104.out) | exact HB.out)⟩
       ·rw [if_neg c33] at H
        have c33b0 : decide (a0_2 ≤ 7) = false := decide_eq_false c33
        clear c33
        obtain rfl := Option.some.inj H
        go_enter Tryd.func32, Tryd.ntmps32
        go_wp2_with (first | ((with_reducible refine qqs (N := 1) rfl ?_); refine box_event ?hg (N := 1) ?hd (cs := #[.int .i64 a0_0, .int .i64 a0_1, .int .i64 a0_2, .int .i64 a0_3, .int .i64 a0_4, .int .i64 a0_5]) (t := 27) ?hr ?_; (case hd => rfl); (case hg => rfl); (case hr => first | (go_simp; done) | (go_simp; rfl)); intro Qx hg w43 hbox hb; have n0_ := bst HB hb; have n1_ := Aside0.mk (hbox); have n2_ := szl HB hg; have n3_ := szl HB hg; clear HB; have HB := n0_; have Q0 := n1_; have Qy := n2_; have GE104 := n3_; clear n0_ n1_ n2_ n3_; clear hb hbox hg; obtain ⟨_, _, _, _, _, _⟩ := bcells6 Q0.out; obtain ⟨_, _, _, _, _, _⟩ := bfrozen6 Q0.out) | (go_at_call 43; (with_reducible refine (bits_May.calls a0_0 a0_1 true _ A30.out).mono ?_); rintro e w45 ⟨rfl, hb⟩; replace Q0 := bbl Q0 hb; replace HB := bst HB hb; (try clear hb); obtain ⟨_, _, _, _, _, _⟩ := bcells6 Q0.out; obtain ⟨_, _, _, _, _, _⟩ := bfrozen6 Q0.out))
        go_ret
        exact ⟨by first | rfl | (simp [qqj, qqi] <;> rfl) | (simp [*, qqj, qqi] <;> rfl), by repeat (first | (with_reducible first | exact HB.out | apply qqc | apply qqa | apply qqb | refine qqd ?_ GE104.out) | exact HB.out)⟩
      ·rw [if_neg c32] at H
       have c32b0 : decide ((-1) ≤ a0_2) = false := decide_eq_false c32
       clear c32
       obtain rfl := Option.some.inj H
       go_enter Tryd.func32, Tryd.ntmps32
       go_wp2_with (first | ((with_reducible refine qqs (N := 1) rfl ?_); refine box_event ?hg (N := 1) ?hd (cs := #[.int .i64 a0_0, .int .i64 a0_1, .int .i64 a0_2, .int .i64 a0_3, .int .i64 a0_4, .int .i64 a0_5]) (t := 27) ?hr ?_; (case hd => rfl); (case hg => rfl); (case hr => first | (go_simp; done) | (go_simp; rfl)); intro Qx hg w47 hbox hb; have n0_ := bst HB hb; have n1_ := Aside0.mk (hbox); have n2_ := szl HB hg; have n3_ := szl HB hg; clear HB; have HB := n0_; have Q0 := n1_; have Qy := n2_; have GE104 := n3_; clear n0_ n1_ n2_ n3_; clear hb hbox hg; obtain ⟨_, _, _, _, _, _⟩ := bcells6 Q0.out; obtain ⟨_, _, _, _, _, _⟩ := bfrozen6 Q0.out) | (go_at_call 43; (with_reducible refine (bits_May.calls a0_0 a0_1 true _ A30.out).mono ?_); rintro e w49 ⟨rfl, hb⟩; replace Q0 := bbl Q0 hb; replace HB := bst HB hb; (try clear hb); obtain ⟨_, _, _, _, _, _⟩ := bcells6 Q0.out; obtain ⟨_, _, _, _, _, _⟩ := bfrozen6 Q0.out))
       go_ret
       exact ⟨by first | rfl | (simp [qqj, qqi] <;> rfl) | (simp [*, qqj, qqi] <;> rfl), by repeat (first | (with_reducible first | exact HB.out | apply qqc | apply qqa | apply qqb | refine qqd ?_ GE104.out) | exact HB.out)⟩
     ·replace c31 := Bool.eq_false_iff.mpr c31
      subst c31
      have H1 : (some false) = some r := by rw [if_neg (show ¬ (false = true) by decide)] at H; exact H
      clear H
      have H := H1
      clear H1
      obtain rfl := Option.some.inj H
      go_enter Tryd.func32, Tryd.ntmps32
      go_wp2_with (first | ((with_reducible refine qqs (N := 1) rfl ?_); refine box_event ?hg (N := 1) ?hd (cs := #[.int .i64 a0_0, .int .i64 a0_1, .int .i64 a0_2, .int .i64 a0_3, .int .i64 a0_4, .int .i64 a0_5]) (t := 27) ?hr ?_; (case hd => rfl); (case hg => rfl); (case hr => first | (go_simp; done) | (go_simp; rfl)); intro Qx hg w51 hbox hb; have n0_ := bst HB hb; have n1_ := Aside0.mk (hbox); have n2_ := szl HB hg; have n3_ := szl HB hg; clear HB; have HB := n0_; have Q0 := n1_; have Qy := n2_; have GE104 := n3_; clear n0_ n1_ n2_ n3_; clear hb hbox hg; obtain ⟨_, _, _, _, _, _⟩ := bcells6 Q0.out; obtain ⟨_, _, _, _, _, _⟩ := bfrozen6 Q0.out) | (go_at_call 43; (with_reducible refine (bits_May.calls a0_0 a0_1 false _ A30.out).mono ?_); rintro e w53 ⟨rfl, hb⟩; replace Q0 := bbl Q0 hb; replace HB := bst HB hb; (try clear hb)))
      go_ret
      exact ⟨by first | rfl | (simp [qqj, qqi] <;> rfl) | (simp [*, qqj, qqi] <;> rfl), by repeat (first | (with_reducible first | exact HB.out | apply qqc | apply qqa | apply qqb | refine qqd ?_ GE104.out) | exact HB.out)⟩
    ·rw [if_neg c29] at H
     have c29b0 : decide (a0_5 ≤ 7) = false := decide_eq_false c29
     clear c29
     obtain rfl := Option.some.inj H
     go_enter Tryd.func32, Tryd.ntmps32
     go_wp2_with (first | ((with_reducible refine qqs (N := 1) rfl ?_); refine box_event ?hg (N := 1) ?hd (cs := #[.int .i64 a0_0, .int .i64 a0_1, .int .i64 a0_2, .int .i64 a0_3, .int .i64 a0_4, .int .i64 a0_5]) (t := 27) ?hr ?_; (case hd => rfl); (case hg => rfl); (case hr => first | (go_simp; done) | (go_simp; rfl)); intro Qx hg w54 hbox hb; have n0_ := bst HB hb; have n1_ := Aside0.mk (hbox); have n2_ := szl HB hg; have n3_ := szl HB hg; clear HB; have HB := n0_; have Q0 := n1_; have Qy := n2_; have GE104 := n3_; clear n0_ n1_ n2_ n3_; clear hb hbox hg; obtain ⟨_, _, _, _, _, _⟩ := bcells6 Q0.out; obtain ⟨_, _, _, _, _, _⟩ := bfrozen6 Q0.out))
     go_ret
     exact ⟨by first | rfl | (simp [qqj, qqi] <;> rfl) | (simp [*, qqj, qqi] <;> rfl), by repeat (first | (with_reducible first | exact HB.out | apply qqc | apply qqa | apply qqb | refine qqd ?_ GE104.out) | exact HB.out)⟩
   ·rw [if_neg c28] at H
    have c28b0 : decide (0 ≤ a0_5) = false := decide_eq_false c28
    clear c28
    obtain rfl := Option.some.inj H
    go_enter Tryd.func32, Tryd.ntmps32
    go_wp2_with (first | ((with_reducible refine qqs (N := 1) rfl ?_); refine box_event ?hg (N := 1) ?hd (cs := #[.int .i64 a0_0, .int .i64 a0_1, .int .i64 a0_2, .int .i64 a0_3, .int .i64 a0_4, .int .i64 a0_5]) (t := 27) ?hr ?_; (case hd => rfl); (case hg => rfl); (case hr => first | (go_simp; done) | (go_simp; rfl)); intro Qx hg w56 hbox hb; have n0_ := bst HB hb; have n1_ := Aside0.mk (hbox); have n2_ := szl HB hg; have n3_ := szl HB hg; clear HB; have HB := n0_; have Q0 := n1_; have Qy := n2_; have GE104 := n3_; clear n0_ n1_ n2_ n3_; clear hb hbox hg; obtain ⟨_, _, _, _, _, _⟩ := bcells6 Q0.out; obtain ⟨_, _, _, _, _, _⟩ := bfrozen6 Q0.out))
    go_ret
    exact ⟨by first | rfl | (simp [qqj, qqi] <;> rfl) | (simp [*, qqj, qqi] <;> rfl), by repeat (first | (with_reducible first | exact HB.out | apply qqc | apply qqa | apply qqb | refine qqd ?_ GE104.out) | exact HB.out)⟩
  ·rw [if_neg c27] at H
   have c27b0 : (a0_4 == 1) = false := beq_eq_false_iff_ne.mpr c27
   have c27b1 : (a0_4 != 1) = true := bne_iff_ne.mpr c27
   obtain rfl := Option.some.inj H
   go_enter Tryd.func32, Tryd.ntmps32
   go_wp2_with (first | ((with_reducible refine qqs (N := 1) rfl ?_); refine box_event ?hg (N := 1) ?hd (cs := #[.int .i64 a0_0, .int .i64 a0_1, .int .i64 a0_2, .int .i64 a0_3, .int .i64 a0_4, .int .i64 a0_5]) (t := 27) ?hr ?_; (case hd => rfl); (case hg => rfl); (case hr => first | (go_simp; done) | (go_simp; rfl)); intro Qx hg w58 hbox hb; have n0_ := bst HB hb; have n1_ := Aside0.mk (hbox); have n2_ := szl HB hg; have n3_ := szl HB hg; clear HB; have HB := n0_; have Q0 := n1_; have Qy := n2_; have GE104 := n3_; clear n0_ n1_ n2_ n3_; clear hb hbox hg; obtain ⟨_, _, _, _, _, _⟩ := bcells6 Q0.out; obtain ⟨_, _, _, _, _, _⟩ := bfrozen6 Q0.out))
   go_ret
   exact ⟨by first | rfl | (simp [qqj, qqi] <;> rfl) | (simp [*, qqj, qqi] <;> rfl), by repeat (first | (with_reducible first | exact HB.out | apply qqc | apply qqa | apply qqb | refine qqd ?_ GE104.out) | exact HB.out)⟩
def msg_bounds_in.f (a0_0 : Int) (a0_1 : Int) (a1 : Int) : Option (Bool) := if a1 ≥ a0_0 then (some (decide (a1 ≤ a0_1))) else (some false)
set_option maxHeartbeats 8000000 in
set_option maxRecDepth 100000 in
theorem msg_bounds_in.calls (a0_0 : Int) (a0_1 : Int) (a1 : Int) (r : Bool) (w : World) (h : msg_bounds_in.f a0_0 a0_1 a1 = some r) :
  Calls Tryd.prog 33 #[.agg #[.int .i64 a0_0, .int .i64 a0_1], .int .i64 a1] w fun e w' => e = .returned (.bool r) ∧ Below w.heap.size w w' := by
 have hu53 := Tryd.underlying53
 have HB := Aside0.mk (Below.refl w.heap.size w)
 have H : (if a1 ≥ a0_0 then (some (decide (a1 ≤ a0_1))) else (some false)) = some r := h
 clear h
 by_cases c3 : a1 ≥ a0_0
 ·rw [if_pos c3] at H
  have c3b0 : decide (a0_0 ≤ a1) = true := decide_eq_true c3
  clear c3
  obtain rfl := Option.some.inj H
  go_enter Tryd.func33, Tryd.ntmps33
  go_wp2_with (first | ((with_reducible refine qqs (N := 2) rfl ?_); refine box_event ?hg (N := 2) ?hd (cs := #[.int .i64 a0_0, .int .i64 a0_1]) (t := 53) ?hr ?_; (case hd => rfl); (case hg => rfl); (case hr => first | (go_simp; done) | (go_simp; rfl)); intro gb107 hg w4 hbox hb; have n0_ := bst HB hb; have n1_ := Aside0.mk (hbox); have n2_ := szl HB hg; have n3_ := szl HB hg; clear HB; have HB := n0_; have X1 := n1_; have GW107 := n2_; have GE107 := n3_; clear n0_ n1_ n2_ n3_; clear hb hbox hg; obtain ⟨_, _⟩ := bcells2 X1.out; obtain ⟨_, _⟩ := bfrozen2 X1.out))
  go_ret
  exact ⟨by first | rfl | (simp [qqj, qqi] <;> rfl) | (simp [*, qqj, qqi] <;> rfl), by repeat (first | (with_reducible first | exact HB.out | apply qqc | apply qqa | apply qqb | refine qqd ?_ GE107.out) | exact HB.out)⟩
 ·rw [if_neg c3] at H
  have c3b0 : decide (a0_0 ≤ a1) = false := decide_eq_false c3
  clear c3
  obtain rfl := Option.some.inj H
  go_enter Tryd.func33, Tryd.ntmps33
  go_wp2_with (first | ((with_reducible refine qqs (N := 2) rfl ?_); refine box_event ?hg (N := 2) ?hd (cs := #[.int .i64 a0_0, .int .i64 a0_1]) (t := 53) ?hr ?_; (case hd => rfl); (case hg => rfl); (case hr => first | (go_simp; done) | (go_simp; rfl)); intro gb107 hg w6 hbox hb; have n0_ := bst HB hb; have n1_ := Aside0.mk (hbox); have n2_ := szl HB hg; have n3_ := szl HB hg; clear HB; have HB := n0_; have X1 := n1_; have GW107 := n2_; have GE107 := n3_; clear n0_ n1_ n2_ n3_; clear hb hbox hg; obtain ⟨_, _⟩ := bcells2 X1.out; obtain ⟨_, _⟩ := bfrozen2 X1.out))
  go_ret
  exact ⟨by first | rfl | (simp [qqj, qqi] <;> rfl) | (simp [*, qqj, qqi] <;> rfl), by repeat (first | (with_reducible first | exact HB.out | apply qqc | apply qqa | apply qqb | refine qqd ?_ GE107.out) | exact HB.out)⟩
attribute [local go_sem high] eqA27
theorem msg_cells5 {w : World} {g : Nat} {t : TypeId} {v0 v1 v2 v3 v4 : Value} (h : w.heap[g]? = some (.cells #[v0, v1, v2, v3, v4] t (0, 0))) : w.cell? ⟨g, 0, none⟩ = some v0 ∧ w.cell? ⟨g, 1, none⟩ = some v1 ∧ w.cell? ⟨g, 2, none⟩ = some v2 ∧ w.cell? ⟨g, 3, none⟩ = some v3 ∧ w.cell? ⟨g, 4, none⟩ = some v4 :=
 ⟨(qql h 0).trans rfl, (qql h 1).trans rfl, (qql h 2).trans rfl, (qql h 3).trans rfl, (qql h 4).trans rfl⟩
theorem msg_frozen5 {w : World} {g : Nat} {t : TypeId} {cs : Array Value} (h : w.heap[g]? = some (.cells cs t (0, 0))) : w.frozen? ⟨g, 0, none⟩ = false ∧ w.frozen? ⟨g, 1, none⟩ = false ∧ w.frozen? ⟨g, 2, none⟩ = false ∧ w.frozen? ⟨g, 3, none⟩ = false ∧ w.frozen? ⟨g, 4, none⟩ = false :=
 ⟨qqe h 0, qqe h 1, qqe h 2, qqe h 3, qqe h 4⟩
theorem msg_cells10 {w : World} {g : Nat} {t : TypeId} {v0 v1 v2 v3 v4 v5 v6 v7 v8 v9 : Value} (h : w.heap[g]? = some (.cells #[v0, v1, v2, v3, v4, v5, v6, v7, v8, v9] t (0, 0))) : w.cell? ⟨g, 0, none⟩ = some v0 ∧ w.cell? ⟨g, 1, none⟩ = some v1 ∧ w.cell? ⟨g, 2, none⟩ = some v2 ∧ w.cell? ⟨g, 3, none⟩ = some v3 ∧ w.cell? ⟨g, 4, none⟩ = some v4 ∧ w.cell? ⟨g, 5, none⟩ = some v5 ∧ w.cell? ⟨g, 6, none⟩ = some v6 ∧ w.cell? ⟨g, 7, none⟩ = some v7 ∧ w.cell? ⟨g, 8, none⟩ = some v8 ∧ w.cell? ⟨g, 9, none⟩ = some v9 :=
 ⟨(qql h 0).trans rfl, (qql h 1).trans rfl, (qql h 2).trans rfl, (qql h 3).trans rfl, (qql h 4).trans rfl, (qql h 5).trans rfl, (qql h 6).trans rfl, (qql h 7).trans rfl, (qql h 8).trans rfl, (qql h 9).trans rfl⟩
theorem msg_frozen10 {w : World} {g : Nat} {t : TypeId} {cs : Array Value} (h : w.heap[g]? = some (.cells cs t (0, 0))) : w.frozen? ⟨g, 0, none⟩ = false ∧ w.frozen? ⟨g, 1, none⟩ = false ∧ w.frozen? ⟨g, 2, none⟩ = false ∧ w.frozen? ⟨g, 3, none⟩ = false ∧ w.frozen? ⟨g, 4, none⟩ = false ∧ w.frozen? ⟨g, 5, none⟩ = false ∧ w.frozen? ⟨g, 6, none⟩ = false ∧ w.frozen? ⟨g, 7, none⟩ = false ∧ w.frozen? ⟨g, 8, none⟩ = false ∧ w.frozen? ⟨g, 9, none⟩ = false :=
 ⟨qqe h 0, qqe h 1, qqe h 2, qqe h 3, qqe h 4, qqe h 5, qqe h 6, qqe h 7, qqe h 8, qqe h 9⟩
def msg_table : Array Value := #[.int .i64 0, .int .i64 0, .int .i64 0, .int .i64 0, .bool false, .int .i64 0, .int .i64 1048576, .int .i64 0, .int .i64 4095, .bool false, .int .i64 1, .int .i64 1048576, .int .i64 1, .int .i64 4095, .bool true, .int .i64 1, .int .i64 1048576, .int .i64 1, .int .i64 4095, .bool false, .int .i64 1, .int .i64 1048576, .int .i64 1, .int .i64 4095, .bool false, .int .i64 1, .int .i64 1048576, .int .i64 0, .int .i64 0, .bool false]
def Glob (w : World) : Prop := ∃ c t, w.heap[0]? = some (.cells c t (0, 0)) ∧ ∀ i, i < 30 → c[i]? = msg_table[i]?
theorem Glob.below {w w' : World} (h : Glob w) {n : Nat} (hn : n = w.heap.size) (hb : Below n w w') : Glob w' := by
 subst hn
 obtain ⟨c, t, h0, hT⟩ := h
 exact ⟨c, t, blk_below h0 hb, hT⟩
def msg_tab (k : Int) : Int × Int × Int × Int × Bool := if k = 1 then (0, 1048576, 0, 4095, false) else if k = 2 then (1, 1048576, 1, 4095, true) else if k = 3 then (1, 1048576, 1, 4095, false) else if k = 4 then (1, 1048576, 1, 4095, false) else if k = 5 then (1, 1048576, 0, 0, false) else (0, 0, 0, 0, false)
def msg_May.f (a0_0 : Int) (a0_1 : Int) (a0_2 : Int) (a0_3 : Int) (a0_4 : Int) (a0_5 : Int) (a0_6 : Int) (a0_7 : Int) (a0_8 : Int) (a0_9 : Int) : Option (Bool) := if a0_0 < 0 then some false else if a0_0 ≥ 6 then some false else (if (msg_tab a0_0).2.2.2.2 = true then rule_May.f a0_4 a0_5 a0_6 a0_7 a0_8 a0_9 else some ((a0_4 == 0 && (a0_5 == 0)) && (a0_6 == 0 && (a0_7 == 0 && (a0_8 == 0 && (a0_9 == 0)))))).bind fun tr => (msg_bounds_in.f 1 1048576 a0_1).bind fun t1 => (msg_bounds_in.f (msg_tab a0_0).1 (msg_tab a0_0).2.1 a0_2).bind fun t2 => (msg_bounds_in.f (msg_tab a0_0).2.2.1 (msg_tab a0_0).2.2.2.1 a0_3).bind fun t3 => some (tr && (t1 && (t2 && t3)))
set_option maxHeartbeats 8000000 in
set_option maxRecDepth 100000 in
theorem msg_May.at0 (a0_1 : Int) (a0_2 : Int) (a0_3 : Int) (a0_4 : Int) (a0_5 : Int) (a0_6 : Int) (a0_7 : Int) (a0_8 : Int) (a0_9 : Int) (tr t1 t2 t3 : Bool) (w : World) (hG : Glob w) (h0 : ((a0_4 == 0 && (a0_5 == 0)) && (a0_6 == 0 && (a0_7 == 0 && (a0_8 == 0 && (a0_9 == 0))))) = tr) (h1 : msg_bounds_in.f 1 1048576 a0_1 = some t1) (h2 : msg_bounds_in.f 0 0 a0_2 = some t2) (h3 : msg_bounds_in.f 0 0 a0_3 = some t3) :
  Calls Tryd.prog 15 #[.agg #[.int .i64 0, .int .i64 a0_1, .int .i64 a0_2, .int .i64 a0_3, .int .i64 a0_4, .int .i64 a0_5, .int .i64 a0_6, .int .i64 a0_7, .int .i64 a0_8, .int .i64 a0_9]] w fun e w' => e = .returned (.bool (tr && (t1 && (t2 && t3)))) ∧ Below w.heap.size w w' := by
 obtain ⟨c, tg, hg0, hT_⟩ := hG
 have hT0 : c[0]? = some (.int .i64 0) := (hT_ 0 (by decide)).trans rfl
 have hT1 : c[1]? = some (.int .i64 0) := (hT_ 1 (by decide)).trans rfl
 have hT2 : c[2]? = some (.int .i64 0) := (hT_ 2 (by decide)).trans rfl
 have hT3 : c[3]? = some (.int .i64 0) := (hT_ 3 (by decide)).trans rfl
 have hT4 : c[4]? = some (.bool false) := (hT_ 4 (by decide)).trans rfl
 clear hT_
 have BG := Aside0.mk hg0
 clear hg0
 have hu29 := Tryd.underlying29
 have hu48 := Tryd.underlying55
 have hu49 := Tryd.underlying56
 have hu46 := Tryd.underlying53
 have hu27 := Tryd.underlying27
 have HB := Aside0.mk (Below.refl w.heap.size w)
 have A1 := Aside0.mk h1
 have A2 := Aside0.mk h2
 have A3 := Aside0.mk h3
 clear h1 h2 h3
 go_enter Tryd.func15, Tryd.ntmps15
 go_wp2_with (first | ((with_reducible refine qqs (N := 1) rfl ?_); refine box_event ?hg (N := 1) ?hd (cs := #[.int .i64 0, .int .i64 a0_1, .int .i64 a0_2, .int .i64 a0_3, .int .i64 a0_4, .int .i64 a0_5, .int .i64 a0_6, .int .i64 a0_7, .int .i64 a0_8, .int .i64 a0_9]) (t := 29) ?hr ?_; (case hd => rfl); (case hg => rfl); (case hr => first | (go_simp; done) | (go_simp; rfl)); intro g1 hg w1 hbox hb; have n0_ := bst HB hb; have n1_ := Aside0.mk hbox; have n2_ := Aside0.mk (blk_below BG.out hb); have n3_ := Aside0.mk ((by rw [hg]; exact blk_lt BG.out) : 0 < g1); clear HB BG; have HB := n0_; have BK1 := n1_; have BG := n2_; have NG1 := n3_; clear n0_ n1_ n2_ n3_; clear hb hbox hg; obtain ⟨Qg, Qh, Qi, Qj, Qk, Qm, Qn, Qo, Qp, Qq⟩ := msg_cells10 BK1.out; obtain ⟨Q1, Q2, Q3, Q4, Q5, Q6, Q7, Q8, Q9, Qa⟩ := msg_frozen10 BK1.out; have X2 : w1.cell? ⟨0, 0, none⟩ = some (.int .i64 0) := (qql BG.out 0).trans (hT0); have X3 : w1.cell? ⟨0, 1, none⟩ = some (.int .i64 0) := (qql BG.out 1).trans (hT1); have X4 : w1.cell? ⟨0, 2, none⟩ = some (.int .i64 0) := (qql BG.out 2).trans (hT2); have X5 : w1.cell? ⟨0, 3, none⟩ = some (.int .i64 0) := (qql BG.out 3).trans (hT3); have X6 : w1.cell? ⟨0, 4, none⟩ = some (.bool false) := (qql BG.out 4).trans (hT4)) | ((with_reducible refine qqs (N := 3) rfl ?_); refine box_event ?hg (N := 3) ?hd (cs := #[.int .i64 0, .int .i64 0, .int .i64 0, .int .i64 0, .bool false]) (t := 55) ?hr ?_; (case hd => rfl); (case hg => rfl); (case hr => first | (go_simp; done) | (go_simp; rfl)); intro g3 hg w3 hbox hb; have n4_ := Aside0.mk (by rw [hg]; exact (qqu (by repeat (first | (with_reducible first | exact HB.out | apply qqc | apply qqa | apply qqb) | exact HB.out))) : w.heap.size ≤ g3); have n0_ := bst HB hb; have n1_ := Aside0.mk hbox; have n2_ := bbl BK1 hb; have n3_ := Aside0.mk ((by rw [hg]; exact Nat.ne_of_lt (blk_lt (by (with_reducible repeat (first | refine qqg ?_ _ | refine qqk ?_ | refine qqh ?_ _)); exact BK1.out))) : g1 ≠ g3); clear HB BK1; have HB := n0_; have BK3 := n1_; have BK1 := n2_; have N13 := n3_; have GE3 := n4_; clear n0_ n1_ n2_ n3_ n4_; clear hb hbox hg; clear Qg Q1 Qh Q2 Qi Q3 Qj Q4 Qk Q5 Qm Q6 Qn Q7 Qo Q8 Qp Q9 Qq Qa; obtain ⟨Qg, Qh, Qi, Qj, Qk, Qm, Qn, Qo, Qp, Qq⟩ := msg_cells10 BK1.out; obtain ⟨Q1, Q2, Q3, Q4, Q5, Q6, Q7, Q8, Q9, Qa⟩ := msg_frozen10 BK1.out; obtain ⟨Qr, Qs, Qt, Qu, Qv⟩ := msg_cells5 BK3.out; obtain ⟨Qb, Qc, Qd, Qe, Qf⟩ := msg_frozen5 BK3.out) | ((with_reducible refine gate_store (t := 55) (p := 3) rfl ?_); refine store_event (t := 55) (p := 3) (v := ?vo) (w1 := (((((w3.setCell ⟨g3, 0, none⟩ (.int .i64 0)).setCell ⟨g3, 1, none⟩ (.int .i64 0)).setCell ⟨g3, 2, none⟩ (.int .i64 0)).setCell ⟨g3, 3, none⟩ (.int .i64 0)).setCell ⟨g3, 4, none⟩ (.bool false))) ?hg ?ho ?hn ?hr ?_; (case ho => rfl); (case hg => rfl); (case hn => rfl); (case hr => first | (go_simp; done) | (go_simp; rfl)); intro w5 hw; have n0_ := Aside0.mk ((by rw [hw]; exact (qqv (cs' := #[.int .i64 0, .int .i64 0, .int .i64 0, .int .i64 0, .bool false]) (qqv (cs' := #[.int .i64 0, .int .i64 0, .int .i64 0, .int .i64 0, .bool false]) (qqv (cs' := #[.int .i64 0, .int .i64 0, .int .i64 0, .int .i64 0, .bool false]) (qqv (cs' := #[.int .i64 0, .int .i64 0, .int .i64 0, .int .i64 0, .bool false]) (qqv (cs' := #[.int .i64 0, .int .i64 0, .int .i64 0, .int .i64 0, .bool false]) BK3.out 0 (.int .i64 0) rfl) 1 (.int .i64 0) rfl) 2 (.int .i64 0) rfl) 3 (.int .i64 0) rfl) 4 (.bool false) rfl)) : w5.heap[g3]? = some (.cells #[.int .i64 0, .int .i64 0, .int .i64 0, .int .i64 0, .bool false] 55 (0, 0))); have n1_ := Aside0.mk ((by rw [hw]; exact (qqq (qqq (qqq (qqq (qqq BK1.out N13.out (.int .i64 0)) N13.out (.int .i64 0)) N13.out (.int .i64 0)) N13.out (.int .i64 0)) N13.out (.bool false))) : w5.heap[g1]? = some (.cells #[.int .i64 0, .int .i64 a0_1, .int .i64 a0_2, .int .i64 a0_3, .int .i64 a0_4, .int .i64 a0_5, .int .i64 a0_6, .int .i64 a0_7, .int .i64 a0_8, .int .i64 a0_9] 29 (0, 0))); have n2_ := Aside0.mk ((by rw [hw]; exact (qqd (qqd (qqd (qqd (qqd HB.out GE3.out) GE3.out) GE3.out) GE3.out) GE3.out)) : Below w.heap.size w w5); clear HB BK1 BK3 hw; have BK3 := n0_; have BK1 := n1_; have HB := n2_; clear n0_ n1_ n2_; clear Qg Q1 Qh Q2 Qi Q3 Qj Q4 Qk Q5 Qm Q6 Qn Q7 Qo Q8 Qp Q9 Qq Qa Qr Qb Qs Qc Qt Qd Qu Qe Qv Qf; obtain ⟨Qg, Qh, Qi, Qj, Qk, Qm, Qn, Qo, Qp, Qq⟩ := msg_cells10 BK1.out; obtain ⟨Q1, Q2, Q3, Q4, Q5, Q6, Q7, Q8, Q9, Qa⟩ := msg_frozen10 BK1.out; obtain ⟨Qr, Qs, Qt, Qu, Qv⟩ := msg_cells5 BK3.out; obtain ⟨Qb, Qc, Qd, Qe, Qf⟩ := msg_frozen5 BK3.out) | (go_at_call 33; (with_reducible refine (msg_bounds_in.calls 1 1048576 a0_1 t1 _ A1.out).mono ?_); rintro e w7 ⟨rfl, hb⟩; have n0_ := bbl BK1 hb; have n1_ := bbl BK3 hb; have n2_ := bst HB hb; clear HB BK1 BK3 hb; have BK1 := n0_; have BK3 := n1_; have HB := n2_; clear n0_ n1_ n2_; clear Qg Q1 Qh Q2 Qi Q3 Qj Q4 Qk Q5 Qm Q6 Qn Q7 Qo Q8 Qp Q9 Qq Qa Qr Qb Qs Qc Qt Qd Qu Qe Qv Qf; obtain ⟨Qg, Qh, Qi, Qj, Qk, Qm, Qn, Qo, Qp, Qq⟩ := msg_cells10 BK1.out; obtain ⟨Q1, Q2, Q3, Q4, Q5, Q6, Q7, Q8, Q9, Qa⟩ := msg_frozen10 BK1.out; obtain ⟨Qr, Qs, Qt, Qu, Qv⟩ := msg_cells5 BK3.out; obtain ⟨Qb, Qc, Qd, Qe, Qf⟩ := msg_frozen5 BK3.out) | (go_at_call 33; (with_reducible refine (msg_bounds_in.calls 0 0 a0_2 t2 _ A2.out).mono ?_); rintro e w7 ⟨rfl, hb⟩; have n0_ := bbl BK1 hb; have n1_ := bbl BK3 hb; have n2_ := bst HB hb; clear HB BK1 BK3 hb; have BK1 := n0_; have BK3 := n1_; have HB := n2_; clear n0_ n1_ n2_; clear Qg Q1 Qh Q2 Qi Q3 Qj Q4 Qk Q5 Qm Q6 Qn Q7 Qo Q8 Qp Q9 Qq Qa Qr Qb Qs Qc Qt Qd Qu Qe Qv Qf; obtain ⟨Qg, Qh, Qi, Qj, Qk, Qm, Qn, Qo, Qp, Qq⟩ := msg_cells10 BK1.out; obtain ⟨Q1, Q2, Q3, Q4, Q5, Q6, Q7, Q8, Q9, Qa⟩ := msg_frozen10 BK1.out; obtain ⟨Qr, Qs, Qt, Qu, Qv⟩ := msg_cells5 BK3.out; obtain ⟨Qb, Qc, Qd, Qe, Qf⟩ := msg_frozen5 BK3.out) | (go_at_call 33; (with_reducible refine (msg_bounds_in.calls 0 0 a0_3 t3 _ A3.out).mono ?_); rintro e w7 ⟨rfl, hb⟩; have n0_ := bbl BK1 hb; have n1_ := bbl BK3 hb; have n2_ := bst HB hb; clear HB BK1 BK3 hb; have BK1 := n0_; have BK3 := n1_; have HB := n2_; clear n0_ n1_ n2_; clear Qg Q1 Qh Q2 Qi Q3 Qj Q4 Qk Q5 Qm Q6 Qn Q7 Qo Q8 Qp Q9 Qq Qa Qr Qb Qs Qc Qt Qd Qu Qe Qv Qf; obtain ⟨Qg, Qh, Qi, Qj, Qk, Qm, Qn, Qo, Qp, Qq⟩ := msg_cells10 BK1.out; obtain ⟨Q1, Q2, Q3, Q4, Q5, Q6, Q7, Q8, Q9, Qa⟩ := msg_frozen10 BK1.out; obtain ⟨Qr, Qs, Qt, Qu, Qv⟩ := msg_cells5 BK3.out; obtain ⟨Qb, Qc, Qd, Qe, Qf⟩ := msg_frozen5 BK3.out))
 all_goals go_ret
 all_goals exact ⟨by first | rfl | (simp [*]; done), (by repeat (first | (with_reducible first | exact HB.out | apply qqc | apply qqa | apply qqb | refine qqd ?_ GE3.out) | exact HB.out))⟩
set_option maxHeartbeats 8000000 in
set_option maxRecDepth 100000 in
theorem msg_May.at1 (a0_1 : Int) (a0_2 : Int) (a0_3 : Int) (a0_4 : Int) (a0_5 : Int) (a0_6 : Int) (a0_7 : Int) (a0_8 : Int) (a0_9 : Int) (tr t1 t2 t3 : Bool) (w : World) (hG : Glob w) (h0 : ((a0_4 == 0 && (a0_5 == 0)) && (a0_6 == 0 && (a0_7 == 0 && (a0_8 == 0 && (a0_9 == 0))))) = tr) (h1 : msg_bounds_in.f 1 1048576 a0_1 = some t1) (h2 : msg_bounds_in.f 0 1048576 a0_2 = some t2) (h3 : msg_bounds_in.f 0 4095 a0_3 = some t3) :
  Calls Tryd.prog 15 #[.agg #[.int .i64 1, .int .i64 a0_1, .int .i64 a0_2, .int .i64 a0_3, .int .i64 a0_4, .int .i64 a0_5, .int .i64 a0_6, .int .i64 a0_7, .int .i64 a0_8, .int .i64 a0_9]] w fun e w' => e = .returned (.bool (tr && (t1 && (t2 && t3)))) ∧ Below w.heap.size w w' := by
 obtain ⟨c, tg, hg0, hT_⟩ := hG
 have hT5 : c[5]? = some (.int .i64 0) := (hT_ 5 (by decide)).trans rfl
 have hT6 : c[6]? = some (.int .i64 1048576) := (hT_ 6 (by decide)).trans rfl
 have hT7 : c[7]? = some (.int .i64 0) := (hT_ 7 (by decide)).trans rfl
 have hT8 : c[8]? = some (.int .i64 4095) := (hT_ 8 (by decide)).trans rfl
 have hT9 : c[9]? = some (.bool false) := (hT_ 9 (by decide)).trans rfl
 clear hT_
 have BG := Aside0.mk hg0
 clear hg0
 have hu29 := Tryd.underlying29
 have hu48 := Tryd.underlying55
 have hu49 := Tryd.underlying56
 have hu46 := Tryd.underlying53
 have hu27 := Tryd.underlying27
 have HB := Aside0.mk (Below.refl w.heap.size w)
 have A1 := Aside0.mk h1
 have A2 := Aside0.mk h2
 have A3 := Aside0.mk h3
 clear h1 h2 h3
 go_enter Tryd.func15, Tryd.ntmps15
 go_wp2_with (first | ((with_reducible refine qqs (N := 1) rfl ?_); refine box_event ?hg (N := 1) ?hd (cs := #[.int .i64 1, .int .i64 a0_1, .int .i64 a0_2, .int .i64 a0_3, .int .i64 a0_4, .int .i64 a0_5, .int .i64 a0_6, .int .i64 a0_7, .int .i64 a0_8, .int .i64 a0_9]) (t := 29) ?hr ?_; (case hd => rfl); (case hg => rfl); (case hr => first | (go_simp; done) | (go_simp; rfl)); intro g1 hg w1 hbox hb; have n0_ := bst HB hb; have n1_ := Aside0.mk hbox; have n2_ := Aside0.mk (blk_below BG.out hb); have n3_ := Aside0.mk ((by rw [hg]; exact blk_lt BG.out) : 0 < g1); clear HB BG; have HB := n0_; have BK1 := n1_; have BG := n2_; have NG1 := n3_; clear n0_ n1_ n2_ n3_; clear hb hbox hg; obtain ⟨Qg, Qh, Qi, Qj, Qk, Qm, Qn, Qo, Qp, Qq⟩ := msg_cells10 BK1.out; obtain ⟨Q1, Q2, Q3, Q4, Q5, Q6, Q7, Q8, Q9, Qa⟩ := msg_frozen10 BK1.out; have X2 : w1.cell? ⟨0, 5, none⟩ = some (.int .i64 0) := (qql BG.out 5).trans (hT5); have X3 : w1.cell? ⟨0, 6, none⟩ = some (.int .i64 1048576) := (qql BG.out 6).trans (hT6); have X4 : w1.cell? ⟨0, 7, none⟩ = some (.int .i64 0) := (qql BG.out 7).trans (hT7); have X5 : w1.cell? ⟨0, 8, none⟩ = some (.int .i64 4095) := (qql BG.out 8).trans (hT8); have X6 : w1.cell? ⟨0, 9, none⟩ = some (.bool false) := (qql BG.out 9).trans (hT9)) | ((with_reducible refine qqs (N := 3) rfl ?_); refine box_event ?hg (N := 3) ?hd (cs := #[.int .i64 0, .int .i64 0, .int .i64 0, .int .i64 0, .bool false]) (t := 55) ?hr ?_; (case hd => rfl); (case hg => rfl); (case hr => first | (go_simp; done) | (go_simp; rfl)); intro g3 hg w3 hbox hb; have n4_ := Aside0.mk (by rw [hg]; exact (qqu (by repeat (first | (with_reducible first | exact HB.out | apply qqc | apply qqa | apply qqb) | exact HB.out))) : w.heap.size ≤ g3); have n0_ := bst HB hb; have n1_ := Aside0.mk hbox; have n2_ := bbl BK1 hb; have n3_ := Aside0.mk ((by rw [hg]; exact Nat.ne_of_lt (blk_lt (by (with_reducible repeat (first | refine qqg ?_ _ | refine qqk ?_ | refine qqh ?_ _)); exact BK1.out))) : g1 ≠ g3); clear HB BK1; have HB := n0_; have BK3 := n1_; have BK1 := n2_; have N13 := n3_; have GE3 := n4_; clear n0_ n1_ n2_ n3_ n4_; clear hb hbox hg; clear Qg Q1 Qh Q2 Qi Q3 Qj Q4 Qk Q5 Qm Q6 Qn Q7 Qo Q8 Qp Q9 Qq Qa; obtain ⟨Qg, Qh, Qi, Qj, Qk, Qm, Qn, Qo, Qp, Qq⟩ := msg_cells10 BK1.out; obtain ⟨Q1, Q2, Q3, Q4, Q5, Q6, Q7, Q8, Q9, Qa⟩ := msg_frozen10 BK1.out; obtain ⟨Qr, Qs, Qt, Qu, Qv⟩ := msg_cells5 BK3.out; obtain ⟨Qb, Qc, Qd, Qe, Qf⟩ := msg_frozen5 BK3.out) | ((with_reducible refine gate_store (t := 55) (p := 3) rfl ?_); refine store_event (t := 55) (p := 3) (v := ?vo) (w1 := (((((w3.setCell ⟨g3, 0, none⟩ (.int .i64 0)).setCell ⟨g3, 1, none⟩ (.int .i64 1048576)).setCell ⟨g3, 2, none⟩ (.int .i64 0)).setCell ⟨g3, 3, none⟩ (.int .i64 4095)).setCell ⟨g3, 4, none⟩ (.bool false))) ?hg ?ho ?hn ?hr ?_; (case ho => rfl); (case hg => rfl); (case hn => rfl); (case hr => first | (go_simp; done) | (go_simp; rfl)); intro w5 hw; have n0_ := Aside0.mk ((by rw [hw]; exact (qqv (cs' := #[.int .i64 0, .int .i64 1048576, .int .i64 0, .int .i64 4095, .bool false]) (qqv (cs' := #[.int .i64 0, .int .i64 1048576, .int .i64 0, .int .i64 4095, .bool false]) (qqv (cs' := #[.int .i64 0, .int .i64 1048576, .int .i64 0, .int .i64 0, .bool false]) (qqv (cs' := #[.int .i64 0, .int .i64 1048576, .int .i64 0, .int .i64 0, .bool false]) (qqv (cs' := #[.int .i64 0, .int .i64 0, .int .i64 0, .int .i64 0, .bool false]) BK3.out 0 (.int .i64 0) rfl) 1 (.int .i64 1048576) rfl) 2 (.int .i64 0) rfl) 3 (.int .i64 4095) rfl) 4 (.bool false) rfl)) : w5.heap[g3]? = some (.cells #[.int .i64 0, .int .i64 1048576, .int .i64 0, .int .i64 4095, .bool false] 55 (0, 0))); have n1_ := Aside0.mk ((by rw [hw]; exact (qqq (qqq (qqq (qqq (qqq BK1.out N13.out (.int .i64 0)) N13.out (.int .i64 1048576)) N13.out (.int .i64 0)) N13.out (.int .i64 4095)) N13.out (.bool false))) : w5.heap[g1]? = some (.cells #[.int .i64 1, .int .i64 a0_1, .int .i64 a0_2, .int .i64 a0_3, .int .i64 a0_4, .int .i64 a0_5, .int .i64 a0_6, .int .i64 a0_7, .int .i64 a0_8, .int .i64 a0_9] 29 (0, 0))); have n2_ := Aside0.mk ((by rw [hw]; exact (qqd (qqd (qqd (qqd (qqd HB.out GE3.out) GE3.out) GE3.out) GE3.out) GE3.out)) : Below w.heap.size w w5); clear HB BK1 BK3 hw; have BK3 := n0_; have BK1 := n1_; have HB := n2_; clear n0_ n1_ n2_; clear Qg Q1 Qh Q2 Qi Q3 Qj Q4 Qk Q5 Qm Q6 Qn Q7 Qo Q8 Qp Q9 Qq Qa Qr Qb Qs Qc Qt Qd Qu Qe Qv Qf; obtain ⟨Qg, Qh, Qi, Qj, Qk, Qm, Qn, Qo, Qp, Qq⟩ := msg_cells10 BK1.out; obtain ⟨Q1, Q2, Q3, Q4, Q5, Q6, Q7, Q8, Q9, Qa⟩ := msg_frozen10 BK1.out; obtain ⟨Qr, Qs, Qt, Qu, Qv⟩ := msg_cells5 BK3.out; obtain ⟨Qb, Qc, Qd, Qe, Qf⟩ := msg_frozen5 BK3.out) | (go_at_call 33; (with_reducible refine (msg_bounds_in.calls 1 1048576 a0_1 t1 _ A1.out).mono ?_); rintro e w7 ⟨rfl, hb⟩; have n0_ := bbl BK1 hb; have n1_ := bbl BK3 hb; have n2_ := bst HB hb; clear HB BK1 BK3 hb; have BK1 := n0_; have BK3 := n1_; have HB := n2_; clear n0_ n1_ n2_; clear Qg Q1 Qh Q2 Qi Q3 Qj Q4 Qk Q5 Qm Q6 Qn Q7 Qo Q8 Qp Q9 Qq Qa Qr Qb Qs Qc Qt Qd Qu Qe Qv Qf; obtain ⟨Qg, Qh, Qi, Qj, Qk, Qm, Qn, Qo, Qp, Qq⟩ := msg_cells10 BK1.out; obtain ⟨Q1, Q2, Q3, Q4, Q5, Q6, Q7, Q8, Q9, Qa⟩ := msg_frozen10 BK1.out; obtain ⟨Qr, Qs, Qt, Qu, Qv⟩ := msg_cells5 BK3.out; obtain ⟨Qb, Qc, Qd, Qe, Qf⟩ := msg_frozen5 BK3.out) | (go_at_call 33; (with_reducible refine (msg_bounds_in.calls 0 1048576 a0_2 t2 _ A2.out).mono ?_); rintro e w7 ⟨rfl, hb⟩; have n0_ := bbl BK1 hb; have n1_ := bbl BK3 hb; have n2_ := bst HB hb; clear HB BK1 BK3 hb; have BK1 := n0_; have BK3 := n1_; have HB := n2_; clear n0_ n1_ n2_; clear Qg Q1 Qh Q2 Qi Q3 Qj Q4 Qk Q5 Qm Q6 Qn Q7 Qo Q8 Qp Q9 Qq Qa Qr Qb Qs Qc Qt Qd Qu Qe Qv Qf; obtain ⟨Qg, Qh, Qi, Qj, Qk, Qm, Qn, Qo, Qp, Qq⟩ := msg_cells10 BK1.out; obtain ⟨Q1, Q2, Q3, Q4, Q5, Q6, Q7, Q8, Q9, Qa⟩ := msg_frozen10 BK1.out; obtain ⟨Qr, Qs, Qt, Qu, Qv⟩ := msg_cells5 BK3.out; obtain ⟨Qb, Qc, Qd, Qe, Qf⟩ := msg_frozen5 BK3.out) | (go_at_call 33; (with_reducible refine (msg_bounds_in.calls 0 4095 a0_3 t3 _ A3.out).mono ?_); rintro e w7 ⟨rfl, hb⟩; have n0_ := bbl BK1 hb; have n1_ := bbl BK3 hb; have n2_ := bst HB hb; clear HB BK1 BK3 hb; have BK1 := n0_; have BK3 := n1_; have HB := n2_; clear n0_ n1_ n2_; clear Qg Q1 Qh Q2 Qi Q3 Qj Q4 Qk Q5 Qm Q6 Qn Q7 Qo Q8 Qp Q9 Qq Qa Qr Qb Qs Qc Qt Qd Qu Qe Qv Qf; obtain ⟨Qg, Qh, Qi, Qj, Qk, Qm, Qn, Qo, Qp, Qq⟩ := msg_cells10 BK1.out; obtain ⟨Q1, Q2, Q3, Q4, Q5, Q6, Q7, Q8, Q9, Qa⟩ := msg_frozen10 BK1.out; obtain ⟨Qr, Qs, Qt, Qu, Qv⟩ := msg_cells5 BK3.out; obtain ⟨Qb, Qc, Qd, Qe, Qf⟩ := msg_frozen5 BK3.out))
 all_goals go_ret
 all_goals exact ⟨by first | rfl | (simp [*]; done), (by repeat (first | (with_reducible first | exact HB.out | apply qqc | apply qqa | apply qqb | refine qqd ?_ GE3.out) | exact HB.out))⟩
set_option maxHeartbeats 8000000 in
set_option maxRecDepth 100000 in
theorem msg_May.at2 (a0_1 : Int) (a0_2 : Int) (a0_3 : Int) (a0_4 : Int) (a0_5 : Int) (a0_6 : Int) (a0_7 : Int) (a0_8 : Int) (a0_9 : Int) (tr t1 t2 t3 : Bool) (w : World) (hG : Glob w) (h0 : rule_May.f a0_4 a0_5 a0_6 a0_7 a0_8 a0_9 = some tr) (h1 : msg_bounds_in.f 1 1048576 a0_1 = some t1) (h2 : msg_bounds_in.f 1 1048576 a0_2 = some t2) (h3 : msg_bounds_in.f 1 4095 a0_3 = some t3) :
  Calls Tryd.prog 15 #[.agg #[.int .i64 2, .int .i64 a0_1, .int .i64 a0_2, .int .i64 a0_3, .int .i64 a0_4, .int .i64 a0_5, .int .i64 a0_6, .int .i64 a0_7, .int .i64 a0_8, .int .i64 a0_9]] w fun e w' => e = .returned (.bool (tr && (t1 && (t2 && t3)))) ∧ Below w.heap.size w w' := by
 obtain ⟨c, tg, hg0, hT_⟩ := hG
 have hT10 : c[10]? = some (.int .i64 1) := (hT_ 10 (by decide)).trans rfl
 have hT11 : c[11]? = some (.int .i64 1048576) := (hT_ 11 (by decide)).trans rfl
 have hT12 : c[12]? = some (.int .i64 1) := (hT_ 12 (by decide)).trans rfl
 have hT13 : c[13]? = some (.int .i64 4095) := (hT_ 13 (by decide)).trans rfl
 have hT14 : c[14]? = some (.bool true) := (hT_ 14 (by decide)).trans rfl
 clear hT_
 have BG := Aside0.mk hg0
 clear hg0
 have hu29 := Tryd.underlying29
 have hu48 := Tryd.underlying55
 have hu49 := Tryd.underlying56
 have hu46 := Tryd.underlying53
 have hu27 := Tryd.underlying27
 have HB := Aside0.mk (Below.refl w.heap.size w)
 have A0 := Aside0.mk h0
 clear h0
 have A1 := Aside0.mk h1
 have A2 := Aside0.mk h2
 have A3 := Aside0.mk h3
 clear h1 h2 h3
 go_enter Tryd.func15, Tryd.ntmps15
 go_wp2_with (first | ((with_reducible refine qqs (N := 1) rfl ?_); refine box_event ?hg (N := 1) ?hd (cs := #[.int .i64 2, .int .i64 a0_1, .int .i64 a0_2, .int .i64 a0_3, .int .i64 a0_4, .int .i64 a0_5, .int .i64 a0_6, .int .i64 a0_7, .int .i64 a0_8, .int .i64 a0_9]) (t := 29) ?hr ?_; (case hd => rfl); (case hg => rfl); (case hr => first | (go_simp; done) | (go_simp; rfl)); intro g1 hg w1 hbox hb; have n0_ := bst HB hb; have n1_ := Aside0.mk hbox; have n2_ := Aside0.mk (blk_below BG.out hb); have n3_ := Aside0.mk ((by rw [hg]; exact blk_lt BG.out) : 0 < g1); clear HB BG; have HB := n0_; have BK1 := n1_; have BG := n2_; have NG1 := n3_; clear n0_ n1_ n2_ n3_; clear hb hbox hg; obtain ⟨Qg, Qh, Qi, Qj, Qk, Qm, Qn, Qo, Qp, Qq⟩ := msg_cells10 BK1.out; obtain ⟨Q1, Q2, Q3, Q4, Q5, Q6, Q7, Q8, Q9, Qa⟩ := msg_frozen10 BK1.out; have X2 : w1.cell? ⟨0, 10, none⟩ = some (.int .i64 1) := (qql BG.out 10).trans (hT10); have X3 : w1.cell? ⟨0, 11, none⟩ = some (.int .i64 1048576) := (qql BG.out 11).trans (hT11); have X4 : w1.cell? ⟨0, 12, none⟩ = some (.int .i64 1) := (qql BG.out 12).trans (hT12); have X5 : w1.cell? ⟨0, 13, none⟩ = some (.int .i64 4095) := (qql BG.out 13).trans (hT13); have X6 : w1.cell? ⟨0, 14, none⟩ = some (.bool true) := (qql BG.out 14).trans (hT14)) | ((with_reducible refine qqs (N := 3) rfl ?_); refine box_event ?hg (N := 3) ?hd (cs := #[.int .i64 0, .int .i64 0, .int .i64 0, .int .i64 0, .bool false]) (t := 55) ?hr ?_; (case hd => rfl); (case hg => rfl); (case hr => first | (go_simp; done) | (go_simp; rfl)); intro g3 hg w3 hbox hb; have n4_ := Aside0.mk (by rw [hg]; exact (qqu (by repeat (first | (with_reducible first | exact HB.out | apply qqc | apply qqa | apply qqb) | exact HB.out))) : w.heap.size ≤ g3); have n0_ := bst HB hb; have n1_ := Aside0.mk hbox; have n2_ := bbl BK1 hb; have n3_ := Aside0.mk ((by rw [hg]; exact Nat.ne_of_lt (blk_lt (by (with_reducible repeat (first | refine qqg ?_ _ | refine qqk ?_ | refine qqh ?_ _)); exact BK1.out))) : g1 ≠ g3); clear HB BK1; have HB := n0_; have BK3 := n1_; have BK1 := n2_; have N13 := n3_; have GE3 := n4_; clear n0_ n1_ n2_ n3_ n4_; clear hb hbox hg; clear Qg Q1 Qh Q2 Qi Q3 Qj Q4 Qk Q5 Qm Q6 Qn Q7 Qo Q8 Qp Q9 Qq Qa; obtain ⟨Qg, Qh, Qi, Qj, Qk, Qm, Qn, Qo, Qp, Qq⟩ := msg_cells10 BK1.out; obtain ⟨Q1, Q2, Q3, Q4, Q5, Q6, Q7, Q8, Q9, Qa⟩ := msg_frozen10 BK1.out; obtain ⟨Qr, Qs, Qt, Qu, Qv⟩ := msg_cells5 BK3.out; obtain ⟨Qb, Qc, Qd, Qe, Qf⟩ := msg_frozen5 BK3.out) | ((with_reducible refine gate_store (t := 55) (p := 3) rfl ?_); refine store_event (t := 55) (p := 3) (v := ?vo) (w1 := (((((w3.setCell ⟨g3, 0, none⟩ (.int .i64 1)).setCell ⟨g3, 1, none⟩ (.int .i64 1048576)).setCell ⟨g3, 2, none⟩ (.int .i64 1)).setCell ⟨g3, 3, none⟩ (.int .i64 4095)).setCell ⟨g3, 4, none⟩ (.bool true))) ?hg ?ho ?hn ?hr ?_; (case ho => rfl); (case hg => rfl); (case hn => rfl); (case hr => first | (go_simp; done) | (go_simp; rfl)); intro w5 hw; have n0_ := Aside0.mk ((by rw [hw]; exact (qqv (cs' := #[.int .i64 1, .int .i64 1048576, .int .i64 1, .int .i64 4095, .bool true]) (qqv (cs' := #[.int .i64 1, .int .i64 1048576, .int .i64 1, .int .i64 4095, .bool false]) (qqv (cs' := #[.int .i64 1, .int .i64 1048576, .int .i64 1, .int .i64 0, .bool false]) (qqv (cs' := #[.int .i64 1, .int .i64 1048576, .int .i64 0, .int .i64 0, .bool false]) (qqv (cs' := #[.int .i64 1, .int .i64 0, .int .i64 0, .int .i64 0, .bool false]) BK3.out 0 (.int .i64 1) rfl) 1 (.int .i64 1048576) rfl) 2 (.int .i64 1) rfl) 3 (.int .i64 4095) rfl) 4 (.bool true) rfl)) : w5.heap[g3]? = some (.cells #[.int .i64 1, .int .i64 1048576, .int .i64 1, .int .i64 4095, .bool true] 55 (0, 0))); have n1_ := Aside0.mk ((by rw [hw]; exact (qqq (qqq (qqq (qqq (qqq BK1.out N13.out (.int .i64 1)) N13.out (.int .i64 1048576)) N13.out (.int .i64 1)) N13.out (.int .i64 4095)) N13.out (.bool true))) : w5.heap[g1]? = some (.cells #[.int .i64 2, .int .i64 a0_1, .int .i64 a0_2, .int .i64 a0_3, .int .i64 a0_4, .int .i64 a0_5, .int .i64 a0_6, .int .i64 a0_7, .int .i64 a0_8, .int .i64 a0_9] 29 (0, 0))); have n2_ := Aside0.mk ((by rw [hw]; exact (qqd (qqd (qqd (qqd (qqd HB.out GE3.out) GE3.out) GE3.out) GE3.out) GE3.out)) : Below w.heap.size w w5); clear HB BK1 BK3 hw; have BK3 := n0_; have BK1 := n1_; have HB := n2_; clear n0_ n1_ n2_; clear Qg Q1 Qh Q2 Qi Q3 Qj Q4 Qk Q5 Qm Q6 Qn Q7 Qo Q8 Qp Q9 Qq Qa Qr Qb Qs Qc Qt Qd Qu Qe Qv Qf; obtain ⟨Qg, Qh, Qi, Qj, Qk, Qm, Qn, Qo, Qp, Qq⟩ := msg_cells10 BK1.out; obtain ⟨Q1, Q2, Q3, Q4, Q5, Q6, Q7, Q8, Q9, Qa⟩ := msg_frozen10 BK1.out; obtain ⟨Qr, Qs, Qt, Qu, Qv⟩ := msg_cells5 BK3.out; obtain ⟨Qb, Qc, Qd, Qe, Qf⟩ := msg_frozen5 BK3.out) | (go_at_call 32; (with_reducible refine (rule_May.calls a0_4 a0_5 a0_6 a0_7 a0_8 a0_9 tr _ A0.out).mono ?_); rintro e w7 ⟨rfl, hb⟩; have n0_ := bbl BK1 hb; have n1_ := bbl BK3 hb; have n2_ := bst HB hb; clear HB BK1 BK3 hb; have BK1 := n0_; have BK3 := n1_; have HB := n2_; clear n0_ n1_ n2_; clear Qg Q1 Qh Q2 Qi Q3 Qj Q4 Qk Q5 Qm Q6 Qn Q7 Qo Q8 Qp Q9 Qq Qa Qr Qb Qs Qc Qt Qd Qu Qe Qv Qf; obtain ⟨Qg, Qh, Qi, Qj, Qk, Qm, Qn, Qo, Qp, Qq⟩ := msg_cells10 BK1.out; obtain ⟨Q1, Q2, Q3, Q4, Q5, Q6, Q7, Q8, Q9, Qa⟩ := msg_frozen10 BK1.out; obtain ⟨Qr, Qs, Qt, Qu, Qv⟩ := msg_cells5 BK3.out; obtain ⟨Qb, Qc, Qd, Qe, Qf⟩ := msg_frozen5 BK3.out) | (go_at_call 33; (with_reducible refine (msg_bounds_in.calls 1 1048576 a0_1 t1 _ A1.out).mono ?_); rintro e w7 ⟨rfl, hb⟩; have n0_ := bbl BK1 hb; have n1_ := bbl BK3 hb; have n2_ := bst HB hb; clear HB BK1 BK3 hb; have BK1 := n0_; have BK3 := n1_; have HB := n2_; clear n0_ n1_ n2_; clear Qg Q1 Qh Q2 Qi Q3 Qj Q4 Qk Q5 Qm Q6 Qn Q7 Qo Q8 Qp Q9 Qq Qa Qr Qb Qs Qc Qt Qd Qu Qe Qv Qf; obtain ⟨Qg, Qh, Qi, Qj, Qk, Qm, Qn, Qo, Qp, Qq⟩ := msg_cells10 BK1.out; obtain ⟨Q1, Q2, Q3, Q4, Q5, Q6, Q7, Q8, Q9, Qa⟩ := msg_frozen10 BK1.out; obtain ⟨Qr, Qs, Qt, Qu, Qv⟩ := msg_cells5 BK3.out; obtain ⟨Qb, Qc, Qd, Qe, Qf⟩ := msg_frozen5 BK3.out) | (go_at_call 33; (with_reducible refine (msg_bounds_in.calls 1 1048576 a0_2 t2 _ A2.out).mono ?_); rintro e w7 ⟨rfl, hb⟩; have n0_ := bbl BK1 hb; have n1_ := bbl BK3 hb; have n2_ := bst HB hb; clear HB BK1 BK3 hb; have BK1 := n0_; have BK3 := n1_; have HB := n2_; clear n0_ n1_ n2_; clear Qg Q1 Qh Q2 Qi Q3 Qj Q4 Qk Q5 Qm Q6 Qn Q7 Qo Q8 Qp Q9 Qq Qa Qr Qb Qs Qc Qt Qd Qu Qe Qv Qf; obtain ⟨Qg, Qh, Qi, Qj, Qk, Qm, Qn, Qo, Qp, Qq⟩ := msg_cells10 BK1.out; obtain ⟨Q1, Q2, Q3, Q4, Q5, Q6, Q7, Q8, Q9, Qa⟩ := msg_frozen10 BK1.out; obtain ⟨Qr, Qs, Qt, Qu, Qv⟩ := msg_cells5 BK3.out; obtain ⟨Qb, Qc, Qd, Qe, Qf⟩ := msg_frozen5 BK3.out) | (go_at_call 33; (with_reducible refine (msg_bounds_in.calls 1 4095 a0_3 t3 _ A3.out).mono ?_); rintro e w7 ⟨rfl, hb⟩; have n0_ := bbl BK1 hb; have n1_ := bbl BK3 hb; have n2_ := bst HB hb; clear HB BK1 BK3 hb; have BK1 := n0_; have BK3 := n1_; have HB := n2_; clear n0_ n1_ n2_; clear Qg Q1 Qh Q2 Qi Q3 Qj Q4 Qk Q5 Qm Q6 Qn Q7 Qo Q8 Qp Q9 Qq Qa Qr Qb Qs Qc Qt Qd Qu Qe Qv Qf; obtain ⟨Qg, Qh, Qi, Qj, Qk, Qm, Qn, Qo, Qp, Qq⟩ := msg_cells10 BK1.out; obtain ⟨Q1, Q2, Q3, Q4, Q5, Q6, Q7, Q8, Q9, Qa⟩ := msg_frozen10 BK1.out; obtain ⟨Qr, Qs, Qt, Qu, Qv⟩ := msg_cells5 BK3.out; obtain ⟨Qb, Qc, Qd, Qe, Qf⟩ := msg_frozen5 BK3.out))
 all_goals go_ret
 all_goals exact ⟨by first | rfl | (simp [*]; done), (by repeat (first | (with_reducible first | exact HB.out | apply qqc | apply qqa | apply qqb | refine qqd ?_ GE3.out) | exact HB.out))⟩
set_option maxHeartbeats 8000000 in
set_option maxRecDepth 100000 in
theorem msg_May.at3 (a0_1 : Int) (a0_2 : Int) (a0_3 : Int) (a0_4 : Int) (a0_5 : Int) (a0_6 : Int) (a0_7 : Int) (a0_8 : Int) (a0_9 : Int) (tr t1 t2 t3 : Bool) (w : World) (hG : Glob w) (h0 : ((a0_4 == 0 && (a0_5 == 0)) && (a0_6 == 0 && (a0_7 == 0 && (a0_8 == 0 && (a0_9 == 0))))) = tr) (h1 : msg_bounds_in.f 1 1048576 a0_1 = some t1) (h2 : msg_bounds_in.f 1 1048576 a0_2 = some t2) (h3 : msg_bounds_in.f 1 4095 a0_3 = some t3) :
  Calls Tryd.prog 15 #[.agg #[.int .i64 3, .int .i64 a0_1, .int .i64 a0_2, .int .i64 a0_3, .int .i64 a0_4, .int .i64 a0_5, .int .i64 a0_6, .int .i64 a0_7, .int .i64 a0_8, .int .i64 a0_9]] w fun e w' => e = .returned (.bool (tr && (t1 && (t2 && t3)))) ∧ Below w.heap.size w w' := by
 obtain ⟨c, tg, hg0, hT_⟩ := hG
 have hT15 : c[15]? = some (.int .i64 1) := (hT_ 15 (by decide)).trans rfl
 have hT16 : c[16]? = some (.int .i64 1048576) := (hT_ 16 (by decide)).trans rfl
 have hT17 : c[17]? = some (.int .i64 1) := (hT_ 17 (by decide)).trans rfl
 have hT18 : c[18]? = some (.int .i64 4095) := (hT_ 18 (by decide)).trans rfl
 have hT19 : c[19]? = some (.bool false) := (hT_ 19 (by decide)).trans rfl
 clear hT_
 have BG := Aside0.mk hg0
 clear hg0
 have hu29 := Tryd.underlying29
 have hu48 := Tryd.underlying55
 have hu49 := Tryd.underlying56
 have hu46 := Tryd.underlying53
 have hu27 := Tryd.underlying27
 have HB := Aside0.mk (Below.refl w.heap.size w)
 have A1 := Aside0.mk h1
 have A2 := Aside0.mk h2
 have A3 := Aside0.mk h3
 clear h1 h2 h3
 go_enter Tryd.func15, Tryd.ntmps15
 go_wp2_with (first | ((with_reducible refine qqs (N := 1) rfl ?_); refine box_event ?hg (N := 1) ?hd (cs := #[.int .i64 3, .int .i64 a0_1, .int .i64 a0_2, .int .i64 a0_3, .int .i64 a0_4, .int .i64 a0_5, .int .i64 a0_6, .int .i64 a0_7, .int .i64 a0_8, .int .i64 a0_9]) (t := 29) ?hr ?_; (case hd => rfl); (case hg => rfl); (case hr => first | (go_simp; done) | (go_simp; rfl)); intro g1 hg w1 hbox hb; have n0_ := bst HB hb; have n1_ := Aside0.mk hbox; have n2_ := Aside0.mk (blk_below BG.out hb); have n3_ := Aside0.mk ((by rw [hg]; exact blk_lt BG.out) : 0 < g1); clear HB BG; have HB := n0_; have BK1 := n1_; have BG := n2_; have NG1 := n3_; clear n0_ n1_ n2_ n3_; clear hb hbox hg; obtain ⟨Qg, Qh, Qi, Qj, Qk, Qm, Qn, Qo, Qp, Qq⟩ := msg_cells10 BK1.out; obtain ⟨Q1, Q2, Q3, Q4, Q5, Q6, Q7, Q8, Q9, Qa⟩ := msg_frozen10 BK1.out; have X2 : w1.cell? ⟨0, 15, none⟩ = some (.int .i64 1) := (qql BG.out 15).trans (hT15); have X3 : w1.cell? ⟨0, 16, none⟩ = some (.int .i64 1048576) := (qql BG.out 16).trans (hT16); have X4 : w1.cell? ⟨0, 17, none⟩ = some (.int .i64 1) := (qql BG.out 17).trans (hT17); have X5 : w1.cell? ⟨0, 18, none⟩ = some (.int .i64 4095) := (qql BG.out 18).trans (hT18); have X6 : w1.cell? ⟨0, 19, none⟩ = some (.bool false) := (qql BG.out 19).trans (hT19)) | ((with_reducible refine qqs (N := 3) rfl ?_); refine box_event ?hg (N := 3) ?hd (cs := #[.int .i64 0, .int .i64 0, .int .i64 0, .int .i64 0, .bool false]) (t := 55) ?hr ?_; (case hd => rfl); (case hg => rfl); (case hr => first | (go_simp; done) | (go_simp; rfl)); intro g3 hg w3 hbox hb; have n4_ := Aside0.mk (by rw [hg]; exact (qqu (by repeat (first | (with_reducible first | exact HB.out | apply qqc | apply qqa | apply qqb) | exact HB.out))) : w.heap.size ≤ g3); have n0_ := bst HB hb; have n1_ := Aside0.mk hbox; have n2_ := bbl BK1 hb; have n3_ := Aside0.mk ((by rw [hg]; exact Nat.ne_of_lt (blk_lt (by (with_reducible repeat (first | refine qqg ?_ _ | refine qqk ?_ | refine qqh ?_ _)); exact BK1.out))) : g1 ≠ g3); clear HB BK1; have HB := n0_; have BK3 := n1_; have BK1 := n2_; have N13 := n3_; have GE3 := n4_; clear n0_ n1_ n2_ n3_ n4_; clear hb hbox hg; clear Qg Q1 Qh Q2 Qi Q3 Qj Q4 Qk Q5 Qm Q6 Qn Q7 Qo Q8 Qp Q9 Qq Qa; obtain ⟨Qg, Qh, Qi, Qj, Qk, Qm, Qn, Qo, Qp, Qq⟩ := msg_cells10 BK1.out; obtain ⟨Q1, Q2, Q3, Q4, Q5, Q6, Q7, Q8, Q9, Qa⟩ := msg_frozen10 BK1.out; obtain ⟨Qr, Qs, Qt, Qu, Qv⟩ := msg_cells5 BK3.out; obtain ⟨Qb, Qc, Qd, Qe, Qf⟩ := msg_frozen5 BK3.out) | ((with_reducible refine gate_store (t := 55) (p := 3) rfl ?_); refine store_event (t := 55) (p := 3) (v := ?vo) (w1 := (((((w3.setCell ⟨g3, 0, none⟩ (.int .i64 1)).setCell ⟨g3, 1, none⟩ (.int .i64 1048576)).setCell ⟨g3, 2, none⟩ (.int .i64 1)).setCell ⟨g3, 3, none⟩ (.int .i64 4095)).setCell ⟨g3, 4, none⟩ (.bool false))) ?hg ?ho ?hn ?hr ?_; (case ho => rfl); (case hg => rfl); (case hn => rfl); (case hr => first | (go_simp; done) | (go_simp; rfl)); intro w5 hw; have n0_ := Aside0.mk ((by rw [hw]; exact (qqv (cs' := #[.int .i64 1, .int .i64 1048576, .int .i64 1, .int .i64 4095, .bool false]) (qqv (cs' := #[.int .i64 1, .int .i64 1048576, .int .i64 1, .int .i64 4095, .bool false]) (qqv (cs' := #[.int .i64 1, .int .i64 1048576, .int .i64 1, .int .i64 0, .bool false]) (qqv (cs' := #[.int .i64 1, .int .i64 1048576, .int .i64 0, .int .i64 0, .bool false]) (qqv (cs' := #[.int .i64 1, .int .i64 0, .int .i64 0, .int .i64 0, .bool false]) BK3.out 0 (.int .i64 1) rfl) 1 (.int .i64 1048576) rfl) 2 (.int .i64 1) rfl) 3 (.int .i64 4095) rfl) 4 (.bool false) rfl)) : w5.heap[g3]? = some (.cells #[.int .i64 1, .int .i64 1048576, .int .i64 1, .int .i64 4095, .bool false] 55 (0, 0))); have n1_ := Aside0.mk ((by rw [hw]; exact (qqq (qqq (qqq (qqq (qqq BK1.out N13.out (.int .i64 1)) N13.out (.int .i64 1048576)) N13.out (.int .i64 1)) N13.out (.int .i64 4095)) N13.out (.bool false))) : w5.heap[g1]? = some (.cells #[.int .i64 3, .int .i64 a0_1, .int .i64 a0_2, .int .i64 a0_3, .int .i64 a0_4, .int .i64 a0_5, .int .i64 a0_6, .int .i64 a0_7, .int .i64 a0_8, .int .i64 a0_9] 29 (0, 0))); have n2_ := Aside0.mk ((by rw [hw]; exact (qqd (qqd (qqd (qqd (qqd HB.out GE3.out) GE3.out) GE3.out) GE3.out) GE3.out)) : Below w.heap.size w w5); clear HB BK1 BK3 hw; have BK3 := n0_; have BK1 := n1_; have HB := n2_; clear n0_ n1_ n2_; clear Qg Q1 Qh Q2 Qi Q3 Qj Q4 Qk Q5 Qm Q6 Qn Q7 Qo Q8 Qp Q9 Qq Qa Qr Qb Qs Qc Qt Qd Qu Qe Qv Qf; obtain ⟨Qg, Qh, Qi, Qj, Qk, Qm, Qn, Qo, Qp, Qq⟩ := msg_cells10 BK1.out; obtain ⟨Q1, Q2, Q3, Q4, Q5, Q6, Q7, Q8, Q9, Qa⟩ := msg_frozen10 BK1.out; obtain ⟨Qr, Qs, Qt, Qu, Qv⟩ := msg_cells5 BK3.out; obtain ⟨Qb, Qc, Qd, Qe, Qf⟩ := msg_frozen5 BK3.out) | (go_at_call 33; (with_reducible refine (msg_bounds_in.calls 1 1048576 a0_1 t1 _ A1.out).mono ?_); rintro e w7 ⟨rfl, hb⟩; have n0_ := bbl BK1 hb; have n1_ := bbl BK3 hb; have n2_ := bst HB hb; clear HB BK1 BK3 hb; have BK1 := n0_; have BK3 := n1_; have HB := n2_; clear n0_ n1_ n2_; clear Qg Q1 Qh Q2 Qi Q3 Qj Q4 Qk Q5 Qm Q6 Qn Q7 Qo Q8 Qp Q9 Qq Qa Qr Qb Qs Qc Qt Qd Qu Qe Qv Qf; obtain ⟨Qg, Qh, Qi, Qj, Qk, Qm, Qn, Qo, Qp, Qq⟩ := msg_cells10 BK1.out; obtain ⟨Q1, Q2, Q3, Q4, Q5, Q6, Q7, Q8, Q9, Qa⟩ := msg_frozen10 BK1.out; obtain ⟨Qr, Qs, Qt, Qu, Qv⟩ := msg_cells5 BK3.out; obtain ⟨Qb, Qc, Qd, Qe, Qf⟩ := msg_frozen5 BK3.out) | (go_at_call 33; (with_reducible refine (msg_bounds_in.calls 1 1048576 a0_2 t2 _ A2.out).mono ?_); rintro e w7 ⟨rfl, hb⟩; have n0_ := bbl BK1 hb; have n1_ := bbl BK3 hb; have n2_ := bst HB hb; clear HB BK1 BK3 hb; have BK1 := n0_; have BK3 := n1_; have HB := n2_; clear n0_ n1_ n2_; clear Qg Q1 Qh Q2 Qi Q3 Qj Q4 Qk Q5 Qm Q6 Qn Q7 Qo Q8 Qp Q9 Qq Qa Qr Qb Qs Qc Qt Qd Qu Qe Qv Qf; obtain ⟨Qg, Qh, Qi, Qj, Qk, Qm, Qn, Qo, Qp, Qq⟩ := msg_cells10 BK1.out; obtain ⟨Q1, Q2, Q3, Q4, Q5, Q6, Q7, Q8, Q9, Qa⟩ := msg_frozen10 BK1.out; obtain ⟨Qr, Qs, Qt, Qu, Qv⟩ := msg_cells5 BK3.out; obtain ⟨Qb, Qc, Qd, Qe, Qf⟩ := msg_frozen5 BK3.out) | (go_at_call 33; (with_reducible refine (msg_bounds_in.calls 1 4095 a0_3 t3 _ A3.out).mono ?_); rintro e w7 ⟨rfl, hb⟩; have n0_ := bbl BK1 hb; have n1_ := bbl BK3 hb; have n2_ := bst HB hb; clear HB BK1 BK3 hb; have BK1 := n0_; have BK3 := n1_; have HB := n2_; clear n0_ n1_ n2_; clear Qg Q1 Qh Q2 Qi Q3 Qj Q4 Qk Q5 Qm Q6 Qn Q7 Qo Q8 Qp Q9 Qq Qa Qr Qb Qs Qc Qt Qd Qu Qe Qv Qf; obtain ⟨Qg, Qh, Qi, Qj, Qk, Qm, Qn, Qo, Qp, Qq⟩ := msg_cells10 BK1.out; obtain ⟨Q1, Q2, Q3, Q4, Q5, Q6, Q7, Q8, Q9, Qa⟩ := msg_frozen10 BK1.out; obtain ⟨Qr, Qs, Qt, Qu, Qv⟩ := msg_cells5 BK3.out; obtain ⟨Qb, Qc, Qd, Qe, Qf⟩ := msg_frozen5 BK3.out))
 all_goals go_ret
 all_goals exact ⟨by first | rfl | (simp [*]; done), (by repeat (first | (with_reducible first | exact HB.out | apply qqc | apply qqa | apply qqb | refine qqd ?_ GE3.out) | exact HB.out))⟩
set_option maxHeartbeats 8000000 in
set_option maxRecDepth 100000 in
theorem msg_May.at4 (a0_1 : Int) (a0_2 : Int) (a0_3 : Int) (a0_4 : Int) (a0_5 : Int) (a0_6 : Int) (a0_7 : Int) (a0_8 : Int) (a0_9 : Int) (tr t1 t2 t3 : Bool) (w : World) (hG : Glob w) (h0 : ((a0_4 == 0 && (a0_5 == 0)) && (a0_6 == 0 && (a0_7 == 0 && (a0_8 == 0 && (a0_9 == 0))))) = tr) (h1 : msg_bounds_in.f 1 1048576 a0_1 = some t1) (h2 : msg_bounds_in.f 1 1048576 a0_2 = some t2) (h3 : msg_bounds_in.f 1 4095 a0_3 = some t3) :
  Calls Tryd.prog 15 #[.agg #[.int .i64 4, .int .i64 a0_1, .int .i64 a0_2, .int .i64 a0_3, .int .i64 a0_4, .int .i64 a0_5, .int .i64 a0_6, .int .i64 a0_7, .int .i64 a0_8, .int .i64 a0_9]] w fun e w' => e = .returned (.bool (tr && (t1 && (t2 && t3)))) ∧ Below w.heap.size w w' := by
 obtain ⟨c, tg, hg0, hT_⟩ := hG
 have hT20 : c[20]? = some (.int .i64 1) := (hT_ 20 (by decide)).trans rfl
 have hT21 : c[21]? = some (.int .i64 1048576) := (hT_ 21 (by decide)).trans rfl
 have hT22 : c[22]? = some (.int .i64 1) := (hT_ 22 (by decide)).trans rfl
 have hT23 : c[23]? = some (.int .i64 4095) := (hT_ 23 (by decide)).trans rfl
 have hT24 : c[24]? = some (.bool false) := (hT_ 24 (by decide)).trans rfl
 clear hT_
 have BG := Aside0.mk hg0
 clear hg0
 have hu29 := Tryd.underlying29
 have hu48 := Tryd.underlying55
 have hu49 := Tryd.underlying56
 have hu46 := Tryd.underlying53
 have hu27 := Tryd.underlying27
 have HB := Aside0.mk (Below.refl w.heap.size w)
 have A1 := Aside0.mk h1
 have A2 := Aside0.mk h2
 have A3 := Aside0.mk h3
 clear h1 h2 h3
 go_enter Tryd.func15, Tryd.ntmps15
 go_wp2_with (first | ((with_reducible refine qqs (N := 1) rfl ?_); refine box_event ?hg (N := 1) ?hd (cs := #[.int .i64 4, .int .i64 a0_1, .int .i64 a0_2, .int .i64 a0_3, .int .i64 a0_4, .int .i64 a0_5, .int .i64 a0_6, .int .i64 a0_7, .int .i64 a0_8, .int .i64 a0_9]) (t := 29) ?hr ?_; (case hd => rfl); (case hg => rfl); (case hr => first | (go_simp; done) | (go_simp; rfl)); intro g1 hg w1 hbox hb; have n0_ := bst HB hb; have n1_ := Aside0.mk hbox; have n2_ := Aside0.mk (blk_below BG.out hb); have n3_ := Aside0.mk ((by rw [hg]; exact blk_lt BG.out) : 0 < g1); clear HB BG; have HB := n0_; have BK1 := n1_; have BG := n2_; have NG1 := n3_; clear n0_ n1_ n2_ n3_; clear hb hbox hg; obtain ⟨Qg, Qh, Qi, Qj, Qk, Qm, Qn, Qo, Qp, Qq⟩ := msg_cells10 BK1.out; obtain ⟨Q1, Q2, Q3, Q4, Q5, Q6, Q7, Q8, Q9, Qa⟩ := msg_frozen10 BK1.out; have X2 : w1.cell? ⟨0, 20, none⟩ = some (.int .i64 1) := (qql BG.out 20).trans (hT20); have X3 : w1.cell? ⟨0, 21, none⟩ = some (.int .i64 1048576) := (qql BG.out 21).trans (hT21); have X4 : w1.cell? ⟨0, 22, none⟩ = some (.int .i64 1) := (qql BG.out 22).trans (hT22); have X5 : w1.cell? ⟨0, 23, none⟩ = some (.int .i64 4095) := (qql BG.out 23).trans (hT23); have X6 : w1.cell? ⟨0, 24, none⟩ = some (.bool false) := (qql BG.out 24).trans (hT24)) | ((with_reducible refine qqs (N := 3) rfl ?_); refine box_event ?hg (N := 3) ?hd (cs := #[.int .i64 0, .int .i64 0, .int .i64 0, .int .i64 0, .bool false]) (t := 55) ?hr ?_; (case hd => rfl); (case hg => rfl); (case hr => first | (go_simp; done) | (go_simp; rfl)); intro g3 hg w3 hbox hb; have n4_ := Aside0.mk (by rw [hg]; exact (qqu (by repeat (first | (with_reducible first | exact HB.out | apply qqc | apply qqa | apply qqb) | exact HB.out))) : w.heap.size ≤ g3); have n0_ := bst HB hb; have n1_ := Aside0.mk hbox; have n2_ := bbl BK1 hb; have n3_ := Aside0.mk ((by rw [hg]; exact Nat.ne_of_lt (blk_lt (by (with_reducible repeat (first | refine qqg ?_ _ | refine qqk ?_ | refine qqh ?_ _)); exact BK1.out))) : g1 ≠ g3); clear HB BK1; have HB := n0_; have BK3 := n1_; have BK1 := n2_; have N13 := n3_; have GE3 := n4_; clear n0_ n1_ n2_ n3_ n4_; clear hb hbox hg; clear Qg Q1 Qh Q2 Qi Q3 Qj Q4 Qk Q5 Qm Q6 Qn Q7 Qo Q8 Qp Q9 Qq Qa; obtain ⟨Qg, Qh, Qi, Qj, Qk, Qm, Qn, Qo, Qp, Qq⟩ := msg_cells10 BK1.out; obtain ⟨Q1, Q2, Q3, Q4, Q5, Q6, Q7, Q8, Q9, Qa⟩ := msg_frozen10 BK1.out; obtain ⟨Qr, Qs, Qt, Qu, Qv⟩ := msg_cells5 BK3.out; obtain ⟨Qb, Qc, Qd, Qe, Qf⟩ := msg_frozen5 BK3.out) | ((with_reducible refine gate_store (t := 55) (p := 3) rfl ?_); refine store_event (t := 55) (p := 3) (v := ?vo) (w1 := (((((w3.setCell ⟨g3, 0, none⟩ (.int .i64 1)).setCell ⟨g3, 1, none⟩ (.int .i64 1048576)).setCell ⟨g3, 2, none⟩ (.int .i64 1)).setCell ⟨g3, 3, none⟩ (.int .i64 4095)).setCell ⟨g3, 4, none⟩ (.bool false))) ?hg ?ho ?hn ?hr ?_; (case ho => rfl); (case hg => rfl); (case hn => rfl); (case hr => first | (go_simp; done) | (go_simp; rfl)); intro w5 hw; have n0_ := Aside0.mk ((by rw [hw]; exact (qqv (cs' := #[.int .i64 1, .int .i64 1048576, .int .i64 1, .int .i64 4095, .bool false]) (qqv (cs' := #[.int .i64 1, .int .i64 1048576, .int .i64 1, .int .i64 4095, .bool false]) (qqv (cs' := #[.int .i64 1, .int .i64 1048576, .int .i64 1, .int .i64 0, .bool false]) (qqv (cs' := #[.int .i64 1, .int .i64 1048576, .int .i64 0, .int .i64 0, .bool false]) (qqv (cs' := #[.int .i64 1, .int .i64 0, .int .i64 0, .int .i64 0, .bool false]) BK3.out 0 (.int .i64 1) rfl) 1 (.int .i64 1048576) rfl) 2 (.int .i64 1) rfl) 3 (.int .i64 4095) rfl) 4 (.bool false) rfl)) : w5.heap[g3]? = some (.cells #[.int .i64 1, .int .i64 1048576, .int .i64 1, .int .i64 4095, .bool false] 55 (0, 0))); have n1_ := Aside0.mk ((by rw [hw]; exact (qqq (qqq (qqq (qqq (qqq BK1.out N13.out (.int .i64 1)) N13.out (.int .i64 1048576)) N13.out (.int .i64 1)) N13.out (.int .i64 4095)) N13.out (.bool false))) : w5.heap[g1]? = some (.cells #[.int .i64 4, .int .i64 a0_1, .int .i64 a0_2, .int .i64 a0_3, .int .i64 a0_4, .int .i64 a0_5, .int .i64 a0_6, .int .i64 a0_7, .int .i64 a0_8, .int .i64 a0_9] 29 (0, 0))); have n2_ := Aside0.mk ((by rw [hw]; exact (qqd (qqd (qqd (qqd (qqd HB.out GE3.out) GE3.out) GE3.out) GE3.out) GE3.out)) : Below w.heap.size w w5); clear HB BK1 BK3 hw; have BK3 := n0_; have BK1 := n1_; have HB := n2_; clear n0_ n1_ n2_; clear Qg Q1 Qh Q2 Qi Q3 Qj Q4 Qk Q5 Qm Q6 Qn Q7 Qo Q8 Qp Q9 Qq Qa Qr Qb Qs Qc Qt Qd Qu Qe Qv Qf; obtain ⟨Qg, Qh, Qi, Qj, Qk, Qm, Qn, Qo, Qp, Qq⟩ := msg_cells10 BK1.out; obtain ⟨Q1, Q2, Q3, Q4, Q5, Q6, Q7, Q8, Q9, Qa⟩ := msg_frozen10 BK1.out; obtain ⟨Qr, Qs, Qt, Qu, Qv⟩ := msg_cells5 BK3.out; obtain ⟨Qb, Qc, Qd, Qe, Qf⟩ := msg_frozen5 BK3.out) | (go_at_call 33; (with_reducible refine (msg_bounds_in.calls 1 1048576 a0_1 t1 _ A1.out).mono ?_); rintro e w7 ⟨rfl, hb⟩; have n0_ := bbl BK1 hb; have n1_ := bbl BK3 hb; have n2_ := bst HB hb; clear HB BK1 BK3 hb; have BK1 := n0_; have BK3 := n1_; have HB := n2_; clear n0_ n1_ n2_; clear Qg Q1 Qh Q2 Qi Q3 Qj Q4 Qk Q5 Qm Q6 Qn Q7 Qo Q8 Qp Q9 Qq Qa Qr Qb Qs Qc Qt Qd Qu Qe Qv Qf; obtain ⟨Qg, Qh, Qi, Qj, Qk, Qm, Qn, Qo, Qp, Qq⟩ := msg_cells10 BK1.out; obtain ⟨Q1, Q2, Q3, Q4, Q5, Q6, Q7, Q8, Q9, Qa⟩ := msg_frozen10 BK1.out; obtain ⟨Qr, Qs, Qt, Qu, Qv⟩ := msg_cells5 BK3.out; obtain ⟨Qb, Qc, Qd, Qe, Qf⟩ := msg_frozen5 BK3.out) | (go_at_call 33; (with_reducible refine (msg_bounds_in.calls 1 1048576 a0_2 t2 _ A2.out).mono ?_); rintro e w7 ⟨rfl, hb⟩; have n0_ := bbl BK1 hb; have n1_ := bbl BK3 hb; have n2_ := bst HB hb; clear HB BK1 BK3 hb; have BK1 := n0_; have BK3 := n1_; have HB := n2_; clear n0_ n1_ n2_; clear Qg Q1 Qh Q2 Qi Q3 Qj Q4 Qk Q5 Qm Q6 Qn Q7 Qo Q8 Qp Q9 Qq Qa Qr Qb Qs Qc Qt Qd Qu Qe Qv Qf; obtain ⟨Qg, Qh, Qi, Qj, Qk, Qm, Qn, Qo, Qp, Qq⟩ := msg_cells10 BK1.out; obtain ⟨Q1, Q2, Q3, Q4, Q5, Q6, Q7, Q8, Q9, Qa⟩ := msg_frozen10 BK1.out; obtain ⟨Qr, Qs, Qt, Qu, Qv⟩ := msg_cells5 BK3.out; obtain ⟨Qb, Qc, Qd, Qe, Qf⟩ := msg_frozen5 BK3.out) | (go_at_call 33; (with_reducible refine (msg_bounds_in.calls 1 4095 a0_3 t3 _ A3.out).mono ?_); rintro e w7 ⟨rfl, hb⟩; have n0_ := bbl BK1 hb; have n1_ := bbl BK3 hb; have n2_ := bst HB hb; clear HB BK1 BK3 hb; have BK1 := n0_; have BK3 := n1_; have HB := n2_; clear n0_ n1_ n2_; clear Qg Q1 Qh Q2 Qi Q3 Qj Q4 Qk Q5 Qm Q6 Qn Q7 Qo Q8 Qp Q9 Qq Qa Qr Qb Qs Qc Qt Qd Qu Qe Qv Qf; obtain ⟨Qg, Qh, Qi, Qj, Qk, Qm, Qn, Qo, Qp, Qq⟩ := msg_cells10 BK1.out; obtain ⟨Q1, Q2, Q3, Q4, Q5, Q6, Q7, Q8, Q9, Qa⟩ := msg_frozen10 BK1.out; obtain ⟨Qr, Qs, Qt, Qu, Qv⟩ := msg_cells5 BK3.out; obtain ⟨Qb, Qc, Qd, Qe, Qf⟩ := msg_frozen5 BK3.out))
 all_goals go_ret
 all_goals exact ⟨by first | rfl | (simp [*]; done), (by repeat (first | (with_reducible first | exact HB.out | apply qqc | apply qqa | apply qqb | refine qqd ?_ GE3.out) | exact HB.out))⟩
set_option maxHeartbeats 8000000 in
set_option maxRecDepth 100000 in
theorem msg_May.at5 (a0_1 : Int) (a0_2 : Int) (a0_3 : Int) (a0_4 : Int) (a0_5 : Int) (a0_6 : Int) (a0_7 : Int) (a0_8 : Int) (a0_9 : Int) (tr t1 t2 t3 : Bool) (w : World) (hG : Glob w) (h0 : ((a0_4 == 0 && (a0_5 == 0)) && (a0_6 == 0 && (a0_7 == 0 && (a0_8 == 0 && (a0_9 == 0))))) = tr) (h1 : msg_bounds_in.f 1 1048576 a0_1 = some t1) (h2 : msg_bounds_in.f 1 1048576 a0_2 = some t2) (h3 : msg_bounds_in.f 0 0 a0_3 = some t3) :
  Calls Tryd.prog 15 #[.agg #[.int .i64 5, .int .i64 a0_1, .int .i64 a0_2, .int .i64 a0_3, .int .i64 a0_4, .int .i64 a0_5, .int .i64 a0_6, .int .i64 a0_7, .int .i64 a0_8, .int .i64 a0_9]] w fun e w' => e = .returned (.bool (tr && (t1 && (t2 && t3)))) ∧ Below w.heap.size w w' := by
 obtain ⟨c, tg, hg0, hT_⟩ := hG
 have hT25 : c[25]? = some (.int .i64 1) := (hT_ 25 (by decide)).trans rfl
 have hT26 : c[26]? = some (.int .i64 1048576) := (hT_ 26 (by decide)).trans rfl
 have hT27 : c[27]? = some (.int .i64 0) := (hT_ 27 (by decide)).trans rfl
 have hT28 : c[28]? = some (.int .i64 0) := (hT_ 28 (by decide)).trans rfl
 have hT29 : c[29]? = some (.bool false) := (hT_ 29 (by decide)).trans rfl
 clear hT_
 have BG := Aside0.mk hg0
 clear hg0
 have hu29 := Tryd.underlying29
 have hu48 := Tryd.underlying55
 have hu49 := Tryd.underlying56
 have hu46 := Tryd.underlying53
 have hu27 := Tryd.underlying27
 have HB := Aside0.mk (Below.refl w.heap.size w)
 have A1 := Aside0.mk h1
 have A2 := Aside0.mk h2
 have A3 := Aside0.mk h3
 clear h1 h2 h3
 go_enter Tryd.func15, Tryd.ntmps15
 go_wp2_with (first | ((with_reducible refine qqs (N := 1) rfl ?_); refine box_event ?hg (N := 1) ?hd (cs := #[.int .i64 5, .int .i64 a0_1, .int .i64 a0_2, .int .i64 a0_3, .int .i64 a0_4, .int .i64 a0_5, .int .i64 a0_6, .int .i64 a0_7, .int .i64 a0_8, .int .i64 a0_9]) (t := 29) ?hr ?_; (case hd => rfl); (case hg => rfl); (case hr => first | (go_simp; done) | (go_simp; rfl)); intro g1 hg w1 hbox hb; have n0_ := bst HB hb; have n1_ := Aside0.mk hbox; have n2_ := Aside0.mk (blk_below BG.out hb); have n3_ := Aside0.mk ((by rw [hg]; exact blk_lt BG.out) : 0 < g1); clear HB BG; have HB := n0_; have BK1 := n1_; have BG := n2_; have NG1 := n3_; clear n0_ n1_ n2_ n3_; clear hb hbox hg; obtain ⟨Qg, Qh, Qi, Qj, Qk, Qm, Qn, Qo, Qp, Qq⟩ := msg_cells10 BK1.out; obtain ⟨Q1, Q2, Q3, Q4, Q5, Q6, Q7, Q8, Q9, Qa⟩ := msg_frozen10 BK1.out; have X2 : w1.cell? ⟨0, 25, none⟩ = some (.int .i64 1) := (qql BG.out 25).trans (hT25); have X3 : w1.cell? ⟨0, 26, none⟩ = some (.int .i64 1048576) := (qql BG.out 26).trans (hT26); have X4 : w1.cell? ⟨0, 27, none⟩ = some (.int .i64 0) := (qql BG.out 27).trans (hT27); have X5 : w1.cell? ⟨0, 28, none⟩ = some (.int .i64 0) := (qql BG.out 28).trans (hT28); have X6 : w1.cell? ⟨0, 29, none⟩ = some (.bool false) := (qql BG.out 29).trans (hT29)) | ((with_reducible refine qqs (N := 3) rfl ?_); refine box_event ?hg (N := 3) ?hd (cs := #[.int .i64 0, .int .i64 0, .int .i64 0, .int .i64 0, .bool false]) (t := 55) ?hr ?_; (case hd => rfl); (case hg => rfl); (case hr => first | (go_simp; done) | (go_simp; rfl)); intro g3 hg w3 hbox hb; have n4_ := Aside0.mk (by rw [hg]; exact (qqu (by repeat (first | (with_reducible first | exact HB.out | apply qqc | apply qqa | apply qqb) | exact HB.out))) : w.heap.size ≤ g3); have n0_ := bst HB hb; have n1_ := Aside0.mk hbox; have n2_ := bbl BK1 hb; have n3_ := Aside0.mk ((by rw [hg]; exact Nat.ne_of_lt (blk_lt (by (with_reducible repeat (first | refine qqg ?_ _ | refine qqk ?_ | refine qqh ?_ _)); exact BK1.out))) : g1 ≠ g3); clear HB BK1; have HB := n0_; have BK3 := n1_; have BK1 := n2_; have N13 := n3_; have GE3 := n4_; clear n0_ n1_ n2_ n3_ n4_; clear hb hbox hg; clear Qg Q1 Qh Q2 Qi Q3 Qj Q4 Qk Q5 Qm Q6 Qn Q7 Qo Q8 Qp Q9 Qq Qa; obtain ⟨Qg, Qh, Qi, Qj, Qk, Qm, Qn, Qo, Qp, Qq⟩ := msg_cells10 BK1.out; obtain ⟨Q1, Q2, Q3, Q4, Q5, Q6, Q7, Q8, Q9, Qa⟩ := msg_frozen10 BK1.out; obtain ⟨Qr, Qs, Qt, Qu, Qv⟩ := msg_cells5 BK3.out; obtain ⟨Qb, Qc, Qd, Qe, Qf⟩ := msg_frozen5 BK3.out) | ((with_reducible refine gate_store (t := 55) (p := 3) rfl ?_); refine store_event (t := 55) (p := 3) (v := ?vo) (w1 := (((((w3.setCell ⟨g3, 0, none⟩ (.int .i64 1)).setCell ⟨g3, 1, none⟩ (.int .i64 1048576)).setCell ⟨g3, 2, none⟩ (.int .i64 0)).setCell ⟨g3, 3, none⟩ (.int .i64 0)).setCell ⟨g3, 4, none⟩ (.bool false))) ?hg ?ho ?hn ?hr ?_; (case ho => rfl); (case hg => rfl); (case hn => rfl); (case hr => first | (go_simp; done) | (go_simp; rfl)); intro w5 hw; have n0_ := Aside0.mk ((by rw [hw]; exact (qqv (cs' := #[.int .i64 1, .int .i64 1048576, .int .i64 0, .int .i64 0, .bool false]) (qqv (cs' := #[.int .i64 1, .int .i64 1048576, .int .i64 0, .int .i64 0, .bool false]) (qqv (cs' := #[.int .i64 1, .int .i64 1048576, .int .i64 0, .int .i64 0, .bool false]) (qqv (cs' := #[.int .i64 1, .int .i64 1048576, .int .i64 0, .int .i64 0, .bool false]) (qqv (cs' := #[.int .i64 1, .int .i64 0, .int .i64 0, .int .i64 0, .bool false]) BK3.out 0 (.int .i64 1) rfl) 1 (.int .i64 1048576) rfl) 2 (.int .i64 0) rfl) 3 (.int .i64 0) rfl) 4 (.bool false) rfl)) : w5.heap[g3]? = some (.cells #[.int .i64 1, .int .i64 1048576, .int .i64 0, .int .i64 0, .bool false] 55 (0, 0))); have n1_ := Aside0.mk ((by rw [hw]; exact (qqq (qqq (qqq (qqq (qqq BK1.out N13.out (.int .i64 1)) N13.out (.int .i64 1048576)) N13.out (.int .i64 0)) N13.out (.int .i64 0)) N13.out (.bool false))) : w5.heap[g1]? = some (.cells #[.int .i64 5, .int .i64 a0_1, .int .i64 a0_2, .int .i64 a0_3, .int .i64 a0_4, .int .i64 a0_5, .int .i64 a0_6, .int .i64 a0_7, .int .i64 a0_8, .int .i64 a0_9] 29 (0, 0))); have n2_ := Aside0.mk ((by rw [hw]; exact (qqd (qqd (qqd (qqd (qqd HB.out GE3.out) GE3.out) GE3.out) GE3.out) GE3.out)) : Below w.heap.size w w5); clear HB BK1 BK3 hw; have BK3 := n0_; have BK1 := n1_; have HB := n2_; clear n0_ n1_ n2_; clear Qg Q1 Qh Q2 Qi Q3 Qj Q4 Qk Q5 Qm Q6 Qn Q7 Qo Q8 Qp Q9 Qq Qa Qr Qb Qs Qc Qt Qd Qu Qe Qv Qf; obtain ⟨Qg, Qh, Qi, Qj, Qk, Qm, Qn, Qo, Qp, Qq⟩ := msg_cells10 BK1.out; obtain ⟨Q1, Q2, Q3, Q4, Q5, Q6, Q7, Q8, Q9, Qa⟩ := msg_frozen10 BK1.out; obtain ⟨Qr, Qs, Qt, Qu, Qv⟩ := msg_cells5 BK3.out; obtain ⟨Qb, Qc, Qd, Qe, Qf⟩ := msg_frozen5 BK3.out) | (go_at_call 33; (with_reducible refine (msg_bounds_in.calls 1 1048576 a0_1 t1 _ A1.out).mono ?_); rintro e w7 ⟨rfl, hb⟩; have n0_ := bbl BK1 hb; have n1_ := bbl BK3 hb; have n2_ := bst HB hb; clear HB BK1 BK3 hb; have BK1 := n0_; have BK3 := n1_; have HB := n2_; clear n0_ n1_ n2_; clear Qg Q1 Qh Q2 Qi Q3 Qj Q4 Qk Q5 Qm Q6 Qn Q7 Qo Q8 Qp Q9 Qq Qa Qr Qb Qs Qc Qt Qd Qu Qe Qv Qf; obtain ⟨Qg, Qh, Qi, Qj, Qk, Qm, Qn, Qo, Qp, Qq⟩ := msg_cells10 BK1.out; obtain ⟨Q1, Q2, Q3, Q4, Q5, Q6, Q7, Q8, Q9, Qa⟩ := msg_frozen10 BK1.out; obtain ⟨Qr, Qs, Qt, Qu, Qv⟩ := msg_cells5 BK3.out; obtain ⟨Qb, Qc, Qd, Qe, Qf⟩ := msg_frozen5 BK3.out) | (go_at_call 33; (with_reducible refine (msg_bounds_in.calls 1 1048576 a0_2 t2 _ A2.out).mono ?_); rintro e w7 ⟨rfl, hb⟩; have n0_ := bbl BK1 hb; have n1_ := bbl BK3 hb; have n2_ := bst HB hb; clear HB BK1 BK3 hb; have BK1 := n0_; have BK3 := n1_; have HB := n2_; clear n0_ n1_ n2_; clear Qg Q1 Qh Q2 Qi Q3 Qj Q4 Qk Q5 Qm Q6 Qn Q7 Qo Q8 Qp Q9 Qq Qa Qr Qb Qs Qc Qt Qd Qu Qe Qv Qf; obtain ⟨Qg, Qh, Qi, Qj, Qk, Qm, Qn, Qo, Qp, Qq⟩ := msg_cells10 BK1.out; obtain ⟨Q1, Q2, Q3, Q4, Q5, Q6, Q7, Q8, Q9, Qa⟩ := msg_frozen10 BK1.out; obtain ⟨Qr, Qs, Qt, Qu, Qv⟩ := msg_cells5 BK3.out; obtain ⟨Qb, Qc, Qd, Qe, Qf⟩ := msg_frozen5 BK3.out) | (go_at_call 33; (with_reducible refine (msg_bounds_in.calls 0 0 a0_3 t3 _ A3.out).mono ?_); rintro e w7 ⟨rfl, hb⟩; have n0_ := bbl BK1 hb; have n1_ := bbl BK3 hb; have n2_ := bst HB hb; clear HB BK1 BK3 hb; have BK1 := n0_; have BK3 := n1_; have HB := n2_; clear n0_ n1_ n2_; clear Qg Q1 Qh Q2 Qi Q3 Qj Q4 Qk Q5 Qm Q6 Qn Q7 Qo Q8 Qp Q9 Qq Qa Qr Qb Qs Qc Qt Qd Qu Qe Qv Qf; obtain ⟨Qg, Qh, Qi, Qj, Qk, Qm, Qn, Qo, Qp, Qq⟩ := msg_cells10 BK1.out; obtain ⟨Q1, Q2, Q3, Q4, Q5, Q6, Q7, Q8, Q9, Qa⟩ := msg_frozen10 BK1.out; obtain ⟨Qr, Qs, Qt, Qu, Qv⟩ := msg_cells5 BK3.out; obtain ⟨Qb, Qc, Qd, Qe, Qf⟩ := msg_frozen5 BK3.out))
 all_goals go_ret
 all_goals exact ⟨by first | rfl | (simp [*]; done), (by repeat (first | (with_reducible first | exact HB.out | apply qqc | apply qqa | apply qqb | refine qqd ?_ GE3.out) | exact HB.out))⟩
set_option maxHeartbeats 8000000 in
set_option maxRecDepth 100000 in
theorem msg_May.calls (a0_0 : Int) (a0_1 : Int) (a0_2 : Int) (a0_3 : Int) (a0_4 : Int) (a0_5 : Int) (a0_6 : Int) (a0_7 : Int) (a0_8 : Int) (a0_9 : Int) (r : Bool) (w : World) (hG : Glob w) (h : msg_May.f a0_0 a0_1 a0_2 a0_3 a0_4 a0_5 a0_6 a0_7 a0_8 a0_9 = some r) :
  Calls Tryd.prog 15 #[.agg #[.int .i64 a0_0, .int .i64 a0_1, .int .i64 a0_2, .int .i64 a0_3, .int .i64 a0_4, .int .i64 a0_5, .int .i64 a0_6, .int .i64 a0_7, .int .i64 a0_8, .int .i64 a0_9]] w fun e w' => e = .returned (.bool r) ∧ Below w.heap.size w w' := by
 unfold msg_May.f at h
 by_cases c1 : a0_0 < 0
 ·rw [if_pos c1] at h
  obtain rfl := Option.some.inj h
  have c2 : decide (a0_0 < 0) = true := decide_eq_true c1
  clear c1 h
  have HB := Aside0.mk (Below.refl w.heap.size w)
  have hu29 := Tryd.underlying29
  go_enter Tryd.func15, Tryd.ntmps15
  go_wp2_with (first | ((with_reducible refine qqs (N := 1) rfl ?_); refine box_event ?hg (N := 1) ?hd (cs := #[.int .i64 a0_0, .int .i64 a0_1, .int .i64 a0_2, .int .i64 a0_3, .int .i64 a0_4, .int .i64 a0_5, .int .i64 a0_6, .int .i64 a0_7, .int .i64 a0_8, .int .i64 a0_9]) (t := 29) ?hr ?_; (case hd => rfl); (case hg => rfl); (case hr => first | (go_simp; done) | (go_simp; rfl)); intro g1 hg w1 hbox hb; have n0_ := Aside0.mk hb; have BK1 := Aside0.mk hbox; clear HB; have HB := n0_; clear n0_; clear hb hbox hg; obtain ⟨Qg, Qh, Qi, Qj, Qk, Qm, Qn, Qo, Qp, Qq⟩ := msg_cells10 BK1.out; obtain ⟨Q1, Q2, Q3, Q4, Q5, Q6, Q7, Q8, Q9, Qa⟩ := msg_frozen10 BK1.out))
  go_ret
  exact ⟨rfl, HB.out⟩
 ·rw [if_neg c1] at h
  by_cases c3 : a0_0 ≥ 6
  ·rw [if_pos c3] at h
   obtain rfl := Option.some.inj h
   have c2 : decide (a0_0 < 0) = false := decide_eq_false c1
   have c4 : decide (6 ≤ a0_0) = true := decide_eq_true c3
   clear c1 c3 h
   have HB := Aside0.mk (Below.refl w.heap.size w)
   have hu29 := Tryd.underlying29
   go_enter Tryd.func15, Tryd.ntmps15
   go_wp2_with (first | ((with_reducible refine qqs (N := 1) rfl ?_); refine box_event ?hg (N := 1) ?hd (cs := #[.int .i64 a0_0, .int .i64 a0_1, .int .i64 a0_2, .int .i64 a0_3, .int .i64 a0_4, .int .i64 a0_5, .int .i64 a0_6, .int .i64 a0_7, .int .i64 a0_8, .int .i64 a0_9]) (t := 29) ?hr ?_; (case hd => rfl); (case hg => rfl); (case hr => first | (go_simp; done) | (go_simp; rfl)); intro g1 hg w1 hbox hb; have n0_ := Aside0.mk hb; have BK1 := Aside0.mk hbox; clear HB; have HB := n0_; clear n0_; clear hb hbox hg; obtain ⟨Qg, Qh, Qi, Qj, Qk, Qm, Qn, Qo, Qp, Qq⟩ := msg_cells10 BK1.out; obtain ⟨Q1, Q2, Q3, Q4, Q5, Q6, Q7, Q8, Q9, Qa⟩ := msg_frozen10 BK1.out))
   go_ret
   exact ⟨rfl, HB.out⟩
  ·rw [if_neg c3] at h
   have hk : a0_0 = 0 ∨ a0_0 = 1 ∨ a0_0 = 2 ∨ a0_0 = 3 ∨ a0_0 = 4 ∨ a0_0 = 5 := by omega
   clear c1 c3
   obtain ⟨tr, h0, h⟩ := Option.bind_eq_some_iff.mp h
   obtain ⟨t1, h1, h⟩ := Option.bind_eq_some_iff.mp h
   obtain ⟨t2, h2, h⟩ := Option.bind_eq_some_iff.mp h
   obtain ⟨t3, h3, h⟩ := Option.bind_eq_some_iff.mp h
   obtain rfl := Option.some.inj h
   clear h
   rcases hk with rfl | rfl | rfl | rfl | rfl | rfl
   ·exact msg_May.at0 a0_1 a0_2 a0_3 a0_4 a0_5 a0_6 a0_7 a0_8 a0_9 tr t1 t2 t3 w hG (Option.some.inj h0) h1 h2 h3
   ·exact msg_May.at1 a0_1 a0_2 a0_3 a0_4 a0_5 a0_6 a0_7 a0_8 a0_9 tr t1 t2 t3 w hG (Option.some.inj h0) h1 h2 h3
   ·exact msg_May.at2 a0_1 a0_2 a0_3 a0_4 a0_5 a0_6 a0_7 a0_8 a0_9 tr t1 t2 t3 w hG (h0) h1 h2 h3
   ·exact msg_May.at3 a0_1 a0_2 a0_3 a0_4 a0_5 a0_6 a0_7 a0_8 a0_9 tr t1 t2 t3 w hG (Option.some.inj h0) h1 h2 h3
   ·exact msg_May.at4 a0_1 a0_2 a0_3 a0_4 a0_5 a0_6 a0_7 a0_8 a0_9 tr t1 t2 t3 w hG (Option.some.inj h0) h1 h2 h3
   ·exact msg_May.at5 a0_1 a0_2 a0_3 a0_4 a0_5 a0_6 a0_7 a0_8 a0_9 tr t1 t2 t3 w hG (Option.some.inj h0) h1 h2 h3
def octets_may.f (a0 : Int) : Option (Bool) := if a0 ≥ 1 then (some (decide (a0 ≤ 4))) else (some false)
set_option maxHeartbeats 8000000 in
set_option maxRecDepth 100000 in
theorem octets_may.calls (a0 : Int) (r : Bool) (w : World) (h : octets_may.f a0 = some r) :
  Calls Tryd.prog 47 #[.int .i64 a0] w fun e w' => e = .returned (.bool r) ∧ Drawn0 w w' := by
 have H : (if a0 ≥ 1 then (some (decide (a0 ≤ 4))) else (some false)) = some r := h
 clear h
 by_cases c2 : a0 ≥ 1
 ·rw [if_pos c2] at H
  have c2b0 : decide (1 ≤ a0) = true := decide_eq_true c2
  clear c2
  obtain rfl := Option.some.inj H
  go_enter Tryd.func47, Tryd.ntmps47
  go_wp2
  go_ret
  exact ⟨by first | rfl | (simp; done) | (simp [*]; done), by repeat (first | exact Drawn0.refl _ | apply Drawn0.step)⟩
 ·rw [if_neg c2] at H
  have c2b0 : decide (1 ≤ a0) = false := decide_eq_false c2
  clear c2
  obtain rfl := Option.some.inj H
  go_enter Tryd.func47, Tryd.ntmps47
  go_wp2
  go_ret
  exact ⟨by first | rfl | (simp; done) | (simp [*]; done), by repeat (first | exact Drawn0.refl _ | apply Drawn0.step)⟩
mutual
def octets_Put.j0 : Nat → Int → Int → Bool → Option (List Int × Int)
 | 0, _, _, _ => none
 | k + 1, x0, x1, x21 => if x21 = true then (some (([] : List Int), 1)) else (if 0 ≤ x1 then (if (x1 : Int).toNat ≤ 281474976710656 then ((some (List.replicate (x1 : Int).toNat 0 : List Int)).bind fun Qz => (octets_Put.l0 k x0 x1 Qz (Qz.length : Int) 0)) else (none)) else (none))
def octets_Put.l0 : Nat → Int → Int → List Int → Int → Int → Option (List Int × Int)
 | 0, _, _, _, _, _ => none
 | k + 1, x0, x1, x6, x25, x26 => if x26 < x25 then (if 0 ≤ (wrap64 (8 * (wrap64 ((wrap64 (x1 - 1)) - x26)))) then (if 0 ≤ x26 then (if x26 < (x6.length : Int) then (octets_Put.l0 k x0 x1 (x6.set (x26 : Int).toNat ((shr .i64 x0 (wrap64 (8 * (wrap64 ((wrap64 (x1 - 1)) - x26))))) % 256)) x25 (wrap64 (x26 + 1))) else (none)) else (none)) else (none)) else (some (x6, 0))
end
def octets_Put.f (k : Nat) (a0 : Int) (a1 : Int) : Option (List Int × Int) := (octets_may.f a1).bind fun t108 => (if t108 = true then (if a0 < 0 then (octets_Put.j0 k a0 a1 true) else (if 0 ≤ (wrap64 (8 * a1)) then (octets_Put.j0 k a0 a1 ((shr .i64 a0 (wrap64 (8 * a1))) != 0)) else (none))) else (octets_Put.j0 k a0 a1 true))
theorem octets_Put.mono_l : ∀ k, (∀ y0 y1 y2, LeO (octets_Put.j0 k y0 y1 y2) (octets_Put.j0 (k + 1) y0 y1 y2)) ∧ (∀ y0 y1 y2 y3 y4, LeO (octets_Put.l0 k y0 y1 y2 y3 y4) (octets_Put.l0 (k + 1) y0 y1 y2 y3 y4))
 | 0 => ⟨fun _ _ _ r h => by simp [octets_Put.j0] at h, fun _ _ _ _ _ r h => by simp [octets_Put.l0] at h⟩
 | k + 1 => by
  obtain ⟨ih0, ih1⟩ := octets_Put.mono_l k
  refine ⟨?_, ?_⟩
  ·intro y0 y1 y2
   unfold octets_Put.j0
   repeat' first
   | (with_reducible exact ih0 _ _ _)
   | (with_reducible exact ih1 _ _ _ _ _)
   | (with_reducible exact LeO.refl _)
   | (with_reducible exact LeO.none _)
   | (with_reducible refine LeO.ite ?_ ?_)
   | (with_reducible refine LeO.bind ?_ (fun _ => ?_))
   | exact ih0 _ _ _
   | exact ih1 _ _ _ _ _
   | exact LeO.none _
   | refine LeO.ite ?_ ?_
   | refine LeO.bind ?_ (fun _ => ?_)
  ·intro y0 y1 y2 y3 y4
   unfold octets_Put.l0
   repeat' first
   | (with_reducible exact ih0 _ _ _)
   | (with_reducible exact ih1 _ _ _ _ _)
   | (with_reducible exact LeO.refl _)
   | (with_reducible exact LeO.none _)
   | (with_reducible refine LeO.ite ?_ ?_)
   | (with_reducible refine LeO.bind ?_ (fun _ => ?_))
   | exact ih0 _ _ _
   | exact ih1 _ _ _ _ _
   | exact LeO.none _
   | refine LeO.ite ?_ ?_
   | refine LeO.bind ?_ (fun _ => ?_)
theorem octets_Put.mono : ∀ a0 a1 k, LeO (octets_Put.f k a0 a1) (octets_Put.f (k + 1) a0 a1) := by
 intro a0 a1 k
 obtain ⟨ih0, ih1⟩ := octets_Put.mono_l k
 unfold octets_Put.f
 repeat' first
   | (with_reducible exact ih0 _ _ _)
   | (with_reducible exact ih1 _ _ _ _ _)
   | (with_reducible exact LeO.refl _)
   | (with_reducible exact LeO.none _)
   | (with_reducible refine LeO.ite ?_ ?_)
   | (with_reducible refine LeO.bind ?_ (fun _ => ?_))
   | exact ih0 _ _ _
   | exact ih1 _ _ _ _ _
   | exact LeO.none _
   | refine LeO.ite ?_ ?_
   | refine LeO.bind ?_ (fun _ => ?_)
set_option maxHeartbeats 8000000 in
set_option maxRecDepth 100000 in
theorem octets_Put.calls (k : Nat) (a0 : Int) (a1 : Int) (r1 : List Int) (r2 : Int) (w : World) (h : octets_Put.f k a0 a1 = some (r1, r2)) :
  Calls Tryd.prog 42 #[.int .i64 a0, .int .i64 a1] w fun e w' => ∃ v0_ : Value, e = .returned (.tuple #[v0_, .int .i64 r2]) ∧ Kd.R (Kd.int .u8) 5 w' w.heap.size (fun _ => True) v0_ r1 ∧ Below w.heap.size w w' := by
 have HB := Aside0.mk (Below.refl w.heap.size w)
 have H : ((octets_may.f a1).bind fun t108 => (if t108 = true then (if a0 < 0 then (octets_Put.j0 k a0 a1 true) else (if 0 ≤ (wrap64 (8 * a1)) then (octets_Put.j0 k a0 a1 ((shr .i64 a0 (wrap64 (8 * a1))) != 0)) else (none))) else (octets_Put.j0 k a0 a1 true))) = some (r1, r2) := h
 clear h
 have HC3 := Aside0.mk H
 clear H
 go_enter Tryd.func42, Tryd.ntmps42
 go_upto_region 1 with (fail)
 go_cut [21] (fun v21 wc => ∃ (kq : Nat) (x21_2 : Bool), v21 = .bool x21_2 ∧ Aside0 (octets_Put.j0 kq a0 a1 x21_2 = some (r1, r2)) ∧ Aside0 (kq ≤ k) ∧ Aside0 (Below w.heap.size w wc))
 case first =>
  have H := HC3.out
  clear HC3
  replace H := Option.bind_eq_some_iff.mp H
  obtain ⟨t108, A40, H⟩ := H
  replace H : (if t108 = true then (if a0 < 0 then (octets_Put.j0 k a0 a1 true) else (if 0 ≤ (wrap64 (8 * a1)) then (octets_Put.j0 k a0 a1 ((shr .i64 a0 (wrap64 (8 * a1))) != 0)) else (none))) else (octets_Put.j0 k a0 a1 true)) = some (r1, r2) := H
  have A4 := Aside0.mk A40
  clear A40
  by_cases c5 : t108 = true
  ·subst c5
   have H1 : (if a0 < 0 then (octets_Put.j0 k a0 a1 true) else (if 0 ≤ (wrap64 (8 * a1)) then (octets_Put.j0 k a0 a1 ((shr .i64 a0 (wrap64 (8 * a1))) != 0)) else (none))) = some (r1, r2) := by rw [if_pos rfl] at H; exact H
   clear H
   have H := H1
   clear H1
   by_cases c6 : a0 < 0
   ·rw [if_pos c6] at H
    have c6b0 : decide (a0 < 0) = true := decide_eq_true c6
    clear c6
    (first | rw [c6b0] | (simp only [qqo, qqp]; rw [c6b0]) | skip)
    have H' := Aside0.mk H
    clear H
    go_wp2_with (first | ((with_reducible refine qqr (f := 47) rfl ?_); refine goesL_ (some 9) rfl rfl Tryd.func47 (by kernel_rfl) rfl #[.int .i64 a1] rfl (by (try simp only [List.map_toArray, List.map_cons, List.map_nil]); first | done | rfl | (simp only [List.length_drop, List.length_take]; rfl)) ?_; (with_reducible refine (octets_may.calls a1 true _ A4.out).mono ?_); rintro e w' ⟨rfl, ⟨nd, rfl⟩⟩; refine ⟨_, rfl, ?_⟩))
    go_meet
    case rel => exact ⟨_, (true), (by first | rfl | (simp; done) | (simp [*]; done)), H', ⟨by first | omega | exact Nat.le_refl _⟩, ⟨by repeat (first | (with_reducible first | exact HB.out | apply qqc | apply qqa | apply qqb) | exact HB.out)⟩⟩
   ·rw [if_neg c6] at H
    have c6b0 : decide (a0 < 0) = false := decide_eq_false c6
    clear c6
    (first | rw [c6b0] | (simp only [qqo, qqp]; rw [c6b0]) | skip)
    obtain ⟨ji7, hji7⟩ : ∃ j_ : Int, (wrap64 (8 * a1)) = j_ := ⟨_, rfl⟩
    replace H : (if 0 ≤ (ji7) then (octets_Put.j0 k a0 a1 ((shr .i64 a0 (ji7)) != 0)) else (none)) = some (r1, r2) := by first | (rw [hji7] at H; exact H) | (simp only [hji7] at H ⊢; exact H)
    (try rw [hji7] at A4)
    have hji7w : (IntKind.i64.wrap (8 * a1)) = ji7 := (qqo _).trans hji7
    by_cases c8 : 0 ≤ (ji7)
    ·rw [if_pos c8] at H
     have c8b0 := eq_true c8
     have c8b1 : decide (0 ≤ (ji7)) = true := decide_eq_true c8
     clear c8
     obtain ⟨ji9, hji9⟩ : ∃ j_ : Int, (shr .i64 a0 (ji7)) = j_ := ⟨_, rfl⟩
     replace H : (octets_Put.j0 k a0 a1 ((ji9) != 0)) = some (r1, r2) := by first | (rw [hji9] at H; exact H) | (simp only [hji9] at H ⊢; exact H)
     (try rw [hji9] at A4)
     have hji9_ : (a0 / 2 ^ min (ji7).toNat 64) = ji9 := hji9
     have hji9z : (ji7) ≤ 64 → (a0 / 2 ^ (ji7).toNat) = ji9 := shr_small hji9
     have H' := Aside0.mk H
     clear H
     go_wp2_with (first | ((with_reducible refine qqr (f := 47) rfl ?_); refine goesL_ (some 9) rfl rfl Tryd.func47 (by kernel_rfl) rfl #[.int .i64 a1] rfl (by (try simp only [List.map_toArray, List.map_cons, List.map_nil]); first | done | rfl | (simp only [List.length_drop, List.length_take]; rfl)) ?_; (with_reducible refine (octets_may.calls a1 true _ A4.out).mono ?_); rintro e w' ⟨rfl, ⟨nd, rfl⟩⟩; refine ⟨_, rfl, ?_⟩))
     go_meet
     case rel => exact ⟨_, (((ji9) != 0)), (by first | rfl | (simp; done) | (simp only [← hji9] <;> (first | rfl | simp)) | (simp [*]; done)), H', ⟨by first | omega | exact Nat.le_refl _⟩, ⟨by repeat (first | (with_reducible first | exact HB.out | apply qqc | apply qqa | apply qqb) | exact HB.out)⟩⟩
    ·rw [if_neg c8] at H
     exact absurd H (by simp)
  ·replace c5 := Bool.eq_false_iff.mpr c5
   subst c5
   have H1 : (octets_Put.j0 k a0 a1 true) = some (r1, r2) := by rw [if_neg (show ¬ (false = true) by decide)] at H; exact H
   clear H
   have H := H1
   clear H1
   have H' := Aside0.mk H
   clear H
   go_wp2_with (first | ((with_reducible refine qqr (f := 47) rfl ?_); refine goesL_ (some 9) rfl rfl Tryd.func47 (by kernel_rfl) rfl #[.int .i64 a1] rfl (by (try simp only [List.map_toArray, List.map_cons, List.map_nil]); first | done | rfl | (simp only [List.length_drop, List.length_take]; rfl)) ?_; (with_reducible refine (octets_may.calls a1 false _ A4.out).mono ?_); rintro e w' ⟨rfl, ⟨nd, rfl⟩⟩; refine ⟨_, rfl, ?_⟩))
   go_meet
   case rel => exact ⟨_, (true), (by first | rfl | (simp; done) | (simp [*]; done)), H', ⟨by first | omega | exact Nat.le_refl _⟩, ⟨by repeat (first | (with_reducible first | exact HB.out | apply qqc | apply qqa | apply qqb) | exact HB.out)⟩⟩
 case rest =>
  clear HC3
  try clear p2
  try clear c4
  try clear c5
  try clear c6
  try clear c6b0
  try clear p6
  try clear c8
  try clear c8b0
  try clear c8b1
  obtain ⟨kq, x21_2, rfl, HA, HJ2, HB⟩ := hcut
  cases kq with
  | zero => exact absurd HA.out (by simp [octets_Put.j0])
  | succ kj2 =>
   have H := HA.out
   clear HA
   simp only [octets_Put.j0] at H
   by_cases c10 : x21_2 = true
   ·subst c10
    have H1 : (some (([] : List Int), 1)) = some (r1, r2) := by rw [if_pos rfl] at H; exact H
    clear H
    have H := H1
    clear H1
    simp only [Option.some.injEq, Prod.mk.injEq] at H
    obtain ⟨rfl, rfl⟩ := H
    go_wp2
    go_ret2
    exact ⟨_, by first | rfl | (simp [qqj, qqi] <;> rfl) | (simp [*, qqj, qqi] <;> rfl), by first | exact Kd.R_nil _ _ _ _ _ | exact Kd.N_nil _ _ _ _ _ | exact Kd.V_nil _ _ _ _ _ | exact Kd.Q_nil _ _ _ _ _ | exact Kd.S_nil _ _ _ _ _, by repeat (first | (with_reducible first | exact HB.out | apply qqc | apply qqa | apply qqb) | exact HB.out)⟩
   ·replace c10 := Bool.eq_false_iff.mpr c10
    subst c10
    have H1 : (if 0 ≤ a1 then (if (a1 : Int).toNat ≤ 281474976710656 then ((some (List.replicate (a1 : Int).toNat 0 : List Int)).bind fun Qz => (octets_Put.l0 kj2 a0 a1 Qz (Qz.length : Int) 0)) else (none)) else (none)) = some (r1, r2) := by rw [if_neg (show ¬ (false = true) by decide)] at H; exact H
    clear H
    have H := H1
    clear H1
    by_cases c11 : 0 ≤ a1
    ·rw [if_pos c11] at H
     have c11b0 := eq_true c11
     have c11b1 : decide (0 ≤ a1) = true := decide_eq_true c11
     clear c11
     by_cases c12 : (a1 : Int).toNat ≤ 281474976710656
     ·rw [if_pos c12] at H
      have c12b0 := eq_true c12
      have c12b1 : decide ((a1 : Int).toNat ≤ 281474976710656) = true := decide_eq_true c12
      clear c12
      obtain ⟨Qz, hy109⟩ : ∃ y_ : List Int, y_ = (List.replicate (a1 : Int).toNat 0) := ⟨_, rfl⟩
      replace H : (octets_Put.l0 kj2 a0 a1 Qz (Qz.length : Int) 0) = some (r1, r2) := by first | (rw [hy109]; with_reducible exact H) | (have H2_ := (Option.bind_some _ _).symm.trans H; rw [hy109]; with_reducible exact H2_) | (have H2_ := (Option.bind_some _ _).symm.trans H; with_reducible exact H2_) | with_reducible exact H | (rw [hy109]; exact H) | exact H
      have Ny109 := Aside0.mk hy109
      clear hy109
      have H' := Aside0.mk H
      clear H
      go_wp2_with (first | ((with_reducible refine qqs (N := 23) rfl ?_); refine Kd.R_make (Kd.int .u8) _ 5 rfl (N := 23) rfl 31 _ _ rfl a1 rfl rfl Tryd.underlying31 (.int .u8 0) 1 info5 rfl (by decide) (by omega) 0 (ok := fun _ => True) (okp := fun _ => True) rfl (fun _ hk => hk) trivial (of_decide_eq_true (by first | (with_reducible assumption) | assumption)) (Nat.le_trans (Nat.mul_le_mul_right _ (of_decide_eq_true (by first | (with_reducible assumption) | assumption) : a1.toNat ≤ 281474976710656)) (by omega)) (Below.refl _ _) (Nat.le_refl _) ?_; intro v110 w13 ho14 hb hg_ hnew_; clear hg_ hnew_; (first | rw [← Ny109.out] at ho14 | (simp only [Int.reduceToNat] at ho14; rw [← Ny109.out] at ho14)); have HO111 := Aside0.mk (Kd.R_lower ho14 (qqu (by repeat (first | (with_reducible first | exact HB.out | apply qqc | apply qqa | apply qqb) | exact HB.out)))); replace HB := bst HB hb; clear hb ho14; obtain ⟨Ao15, co15, eo15⟩ := Kd.R_slice HO111.out; subst eo15))
      go_loopg [26] kj2 (fun kq v26 w' => ∃ (X0 : List Int) (Qw : Int), v26 = .int .i64 Qw ∧ Aside0 (octets_Put.l0 kq a0 a1 X0 (Qz.length : Int) Qw = some (r1, r2)) ∧ Aside0 (kq ≤ kj2) ∧ Aside0 (Kd.R (Kd.int .u8) 5 w' w.heap.size (fun _ => True) (.slice Ao15 Qz.length co15) X0) ∧ Aside0 (Below w.heap.size w w'))
      case atStart => exact ⟨(Qz), (0), (by first | rfl | (simp; done) | (simp [*]; done)), H', ⟨Nat.le_refl _⟩, ⟨by (with_reducible repeat (first | apply Kd.R_alloc | apply Kd.R_drewN | apply Kd.R_drew)); exact HO111.out⟩, ⟨by repeat (first | (with_reducible first | exact HB.out | apply qqc | apply qqa | apply qqb) | exact HB.out)⟩⟩
      case round =>
       clear H'
       try clear c1
       try clear p2
       try clear c4
       try clear c5
       try clear c6
       try clear c6b0
       try clear p6
       try clear c8
       try clear c8b0
       try clear c8b1
       try clear c10
       try clear c11
       try clear c11b0
       try clear c11b1
       try clear c12
       try clear c12b0
       try clear c12b1
       try clear p2
       try clear p6
       obtain ⟨X0, Qw, rfl, HA, HK2, HO_6, HB⟩ := hrel
       have X7 := (Kd.R_reads' HO_6.out).1
       rw [X7] at HO_6
       (try simp only [X7])
       cases gk with
       | zero => exact absurd HA.out (by simp [octets_Put.l0])
       | succ k2 =>
        have H := HA.out
        clear HA
        simp only [octets_Put.l0] at H
        by_cases c16 : Qw < (Qz.length : Int)
        ·rw [if_pos c16] at H
         have c16b0 : decide (Qw < (Qz.length : Int)) = true := decide_eq_true c16
         clear c16
         obtain ⟨ji17, hji17⟩ : ∃ j_ : Int, (wrap64 (8 * (wrap64 ((wrap64 (a1 - 1)) - Qw)))) = j_ := ⟨_, rfl⟩
         replace H : (if 0 ≤ (ji17) then (if 0 ≤ Qw then (if Qw < (X0.length : Int) then (octets_Put.l0 k2 a0 a1 (X0.set (Qw : Int).toNat ((shr .i64 a0 (ji17)) % 256)) (Qz.length : Int) (wrap64 (Qw + 1))) else (none)) else (none)) else (none)) = some (r1, r2) := by first | (rw [hji17] at H; exact H) | (simp only [hji17] at H ⊢; exact H)
         have hji17w : (IntKind.i64.wrap (8 * (wrap64 ((wrap64 (a1 - 1)) - Qw)))) = ji17 := (qqo _).trans hji17
         by_cases c18 : 0 ≤ (ji17)
         ·rw [if_pos c18] at H
          have c18b0 := eq_true c18
          have c18b1 : decide (0 ≤ (ji17)) = true := decide_eq_true c18
          clear c18
          obtain ⟨ji19, hji19⟩ : ∃ j_ : Int, (shr .i64 a0 (ji17)) = j_ := ⟨_, rfl⟩
          replace H : (if 0 ≤ Qw then (if Qw < (X0.length : Int) then (octets_Put.l0 k2 a0 a1 (X0.set (Qw : Int).toNat ((ji19) % 256)) (Qz.length : Int) (wrap64 (Qw + 1))) else (none)) else (none)) = some (r1, r2) := by first | (rw [hji19] at H; exact H) | (simp only [hji19] at H ⊢; exact H)
          have hji19_ : (a0 / 2 ^ min (ji17).toNat 64) = ji19 := hji19
          have hji19z : (ji17) ≤ 64 → (a0 / 2 ^ (ji17).toNat) = ji19 := shr_small hji19
          by_cases c20 : 0 ≤ Qw
          ·rw [if_pos c20] at H
           have c20b0 : decide (0 ≤ Qw) = true := decide_eq_true c20
           clear c20
           by_cases c21 : Qw < (X0.length : Int)
           ·rw [if_pos c21] at H
            have c21b0 : decide (Qw < (X0.length : Int)) = true := decide_eq_true c21
            clear c21
            obtain ⟨y112, hy112⟩ : ∃ y_ : List Int, y_ = (X0.set (Qw : Int).toNat ((ji19) % 256)) := ⟨_, rfl⟩
            replace H : (octets_Put.l0 k2 a0 a1 y112 (Qz.length : Int) (wrap64 (Qw + 1))) = some (r1, r2) := by first | (rw [hy112]; with_reducible exact H) | (have H2_ := (Option.bind_some _ _).symm.trans H; rw [hy112]; with_reducible exact H2_) | (have H2_ := (Option.bind_some _ _).symm.trans H; with_reducible exact H2_) | with_reducible exact H | (rw [hy112]; exact H) | exact H
            have Ny112 := Aside0.mk hy112
            clear hy112
            have H' := Aside0.mk H
            clear H
            have p22 : 0 ≤ (Qw : Int) := of_decide_eq_true (by first | (with_reducible assumption) | assumption)
            have q22 : (Qw : Int) < ((X0.length : Int) : Int) := of_decide_eq_true (by first | (with_reducible assumption) | assumption)
            obtain ⟨go22, co22, eo22, gb22, gl22, cl22, HG22⟩ := Kd.R_form HO_6.out (by omega)
            (first | cases eo22 | (injection eo22 with ea_ en_ ec_; (first | subst ea_ | (injection ea_ with ea_; subst ea_)); subst ec_; clear en_))
            have GB22 := Aside0.mk gb22
            have GG22 := Aside0.mk HG22
            clear gb22 gl22 HG22
            obtain ⟨hx22_0, hf22_0⟩ := Kd.R_celln 0 HO_6.out (Qw : Int) p22 q22
            replace p22 := eq_true p22
            replace q22 := eq_true q22
            have HP23 := Kd.R_putg HO_6.out (Qw : Int) ((ji19) % 256)
            go_wp2_with (first | ((with_reducible refine gate_store (t := 5) (p := 39) rfl ?_); refine store_event (t := 5) (p := 39) (v := ?vo_w24) (w1 := (wr.setCell ⟨go22, (Qw : Int).toNat, none⟩ (.int .u8 ((ji19) % 256)))) ?hg ?ho ?hn ?hr ?_; (case ho => rfl); (case hg => rfl); (case hn => rfl); (case hr => first | (go_simp; done) | (go_simp; rfl)); intro w24 hw; have hg : wr.grownBy w24 (some go22) := (by rw [hw]; exact HP23.2); have hp_ : Kd.R (Kd.int .u8) 5 w24 w.heap.size (fun _ => True) (.slice (some ⟨go22, 0, none⟩) X0.length co15) y112 := (by rw [hw, Ny112.out]; exact HP23.1); clear HP23; replace HO_6 := Aside0.mk (hp_); replace HB := Aside0.mk ((by rw [hw]; exact qqd (HB.out) GB22.out : Below w.heap.size w w24)); clear hg hw hp_))
            (try simp only [← X7])
            go_roundg k2
            case measure => have := HJ2.out; have := HK2.out; omega
            case rel => exact ⟨(y112), (wrap64 (Qw + 1)), (by first | rfl | (simp; done) | (simp [*]; done)), H', ⟨by have := HJ2.out; have := HK2.out; omega⟩, ⟨by (try simp only [X7]); (with_reducible repeat (first | apply Kd.R_alloc | apply Kd.R_drewN | apply Kd.R_drew)); exact HO_6.out⟩, ⟨by repeat (first | (with_reducible first | exact HB.out | apply qqc | apply qqa | apply qqb) | exact HB.out)⟩⟩
           ·rw [if_neg c21] at H
            exact absurd H (by simp)
          ·rw [if_neg c20] at H
           exact absurd H (by simp)
         ·rw [if_neg c18] at H
          exact absurd H (by simp)
        ·rw [if_neg c16] at H
         have c16b0 : decide (Qw < (Qz.length : Int)) = false := decide_eq_false c16
         (try simp only [X7] at c16b0)
         clear c16
         simp only [Option.some.injEq, Prod.mk.injEq] at H
         obtain ⟨rfl, rfl⟩ := H
         go_wp2
         go_ret2
         exact ⟨_, by first | rfl | (simp [qqj, qqi] <;> rfl) | (simp [*, qqj, qqi] <;> rfl), by (with_reducible repeat (first | apply Kd.R_alloc | apply Kd.R_drewN | apply Kd.R_drew)); exact HO_6.out, by repeat (first | (with_reducible first | exact HB.out | apply qqc | apply qqa | apply qqb) | exact HB.out)⟩
     ·rw [if_neg c12] at H
      exact absurd H (by simp)
    ·rw [if_neg c11] at H
     exact absurd H (by simp)
end Go.Proofs.YtpaoofkahhhjaaaDoor.All
