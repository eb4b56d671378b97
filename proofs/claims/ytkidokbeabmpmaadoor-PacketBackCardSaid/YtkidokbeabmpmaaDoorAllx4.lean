/- Contracts of Go functions that this seat comes to, each with a plain function that tells its answers; conditions: those that each contract names. Written by a program of this session (wip/print) over the print words. -/
import Derived.Test.YtkidokbeabmpmaaDoorAllx0
import Derived.Test.YtkidokbeabmpmaaDoorAllx3
namespace Go.Proofs.YtkidokbeabmpmaaDoor.All
open Go.RowKit Go.Proofs.YtkidokbeabmpmaaDoorW.PrintWords Go.Proofs.YtkidokbeabmpmaaDoorW.PrintLast Go.Proofs.YtkidokbeabmpmaaDoorW.PrintMore
attribute [local go_sem] max2_int min2_int max_two min_two max_three min_three max_four min_four   -- for this text's walks alone
set_option linter.unusedVariables false
set_option linter.unusedSimpArgs false

/-! ### wayfinderlaw03_awake: function 9 -/
def wayfinderlaw03_awake.f (k : Nat)  : Option (Bool) := (packet_Put.f k 1 2 3 4 5).bind fun bt134 => (if bt134.2 = 0 then (if (bt134.1.length : Int) = 18 then (if 13 < (bt134.1.length : Int) then (if (rd bt134.1 13) = 4 then (if 16 < (bt134.1.length : Int) then (if (rd bt134.1 16) = 255 then (if 17 < (bt134.1.length : Int) then (some ((rd bt134.1 17) == 240)) else (none)) else (some false)) else (none)) else (some false)) else (none)) else (some false)) else (some false))
theorem wayfinderlaw03_awake.mono : ∀ k, LeO (wayfinderlaw03_awake.f k ) (wayfinderlaw03_awake.f (k + 1) ) := by
  intro  k
  unfold wayfinderlaw03_awake.f
  repeat' first
      | (with_reducible exact packet_Put.mono _ _ _ _ _ _)
      | (with_reducible exact LeO.refl _)
      | (with_reducible exact LeO.none _)
      | (with_reducible refine LeO.ite ?_ ?_)
      | (with_reducible refine LeO.bind ?_ (fun _ => ?_))
      | exact packet_Put.mono _ _ _ _ _ _
      | exact LeO.none _
      | refine LeO.ite ?_ ?_
      | refine LeO.bind ?_ (fun _ => ?_)
set_option maxHeartbeats 8000000 in
set_option maxRecDepth 100000 in
theorem wayfinderlaw03_awake.calls (k : Nat)  (r : Bool) (w : World) (hG : Glob w) (h : wayfinderlaw03_awake.f k  = some r) :
    Calls Tryd.prog 9 #[] w fun e w' => e = .returned (.bool r) ∧ Below w.heap.size w w' := by
  have hu23 := Tryd.underlying23
  have HB := Aside0.mk (Below.refl w.heap.size w)
  have H : ((packet_Put.f k 1 2 3 4 5).bind fun bt134 => (if bt134.2 = 0 then (if (bt134.1.length : Int) = 18 then (if 13 < (bt134.1.length : Int) then (if (rd bt134.1 13) = 4 then (if 16 < (bt134.1.length : Int) then (if (rd bt134.1 16) = 255 then (if 17 < (bt134.1.length : Int) then (some ((rd bt134.1 17) == 240)) else (none)) else (some false)) else (none)) else (some false)) else (none)) else (some false)) else (some false))) = some r := h
  clear h
  replace H := Option.bind_eq_some_iff.mp H
  obtain ⟨⟨t134, t137⟩, A10, H⟩ := H
  replace H : (if t137 = 0 then (if (t134.length : Int) = 18 then (if 13 < (t134.length : Int) then (if (rd t134 13) = 4 then (if 16 < (t134.length : Int) then (if (rd t134 16) = 255 then (if 17 < (t134.length : Int) then (some ((rd t134 17) == 240)) else (none)) else (some false)) else (none)) else (some false)) else (none)) else (some false)) else (some false)) = some r := H
  have A1 := Aside0.mk A10
  clear A10
  by_cases c2 : t137 = 0
  · rw [if_pos c2] at H
    have c2b0 : (t137 == 0) = true := beq_iff_eq.mpr c2
    have c2b1 : (t137 != 0) = false := bne_eq_false_iff_eq.mpr c2
    clear c2
    by_cases c3 : (t134.length : Int) = 18
    · rw [if_pos c3] at H
      have c3b0 : ((t134.length : Int) == 18) = true := beq_iff_eq.mpr c3
      have c3b1 : ((t134.length : Int) != 18) = false := bne_eq_false_iff_eq.mpr c3
      clear c3
      by_cases c4 : 13 < (t134.length : Int)
      · rw [if_pos c4] at H
        have c4b0 : decide (13 < (t134.length : Int)) = true := decide_eq_true c4
        have c4b1 : decide (13 < t134.length) = true := decide_eq_true (by omega)
        clear c4
        by_cases c5 : (rd t134 13) = 4
        · rw [if_pos c5] at H
          have c5b0 : ((rd t134 13) == 4) = true := beq_iff_eq.mpr c5
          have c5b1 : ((rd t134 13) != 4) = false := bne_eq_false_iff_eq.mpr c5
          clear c5
          by_cases c6 : 16 < (t134.length : Int)
          · rw [if_pos c6] at H
            have c6b0 : decide (16 < (t134.length : Int)) = true := decide_eq_true c6
            have c6b1 : decide (16 < t134.length) = true := decide_eq_true (by omega)
            clear c6
            by_cases c7 : (rd t134 16) = 255
            · rw [if_pos c7] at H
              have c7b0 : ((rd t134 16) == 255) = true := beq_iff_eq.mpr c7
              have c7b1 : ((rd t134 16) != 255) = false := bne_eq_false_iff_eq.mpr c7
              clear c7
              by_cases c8 : 17 < (t134.length : Int)
              · rw [if_pos c8] at H
                have c8b0 : decide (17 < (t134.length : Int)) = true := decide_eq_true c8
                have c8b1 : decide (17 < t134.length) = true := decide_eq_true (by omega)
                clear c8
                obtain rfl := Option.some.inj H
                go_enter Tryd.func9, Tryd.ntmps9
                go_wp2_with (first | ((with_reducible refine gate_callee (f := 10) rfl ?_); refine goesL_ (some 5) rfl rfl Tryd.func10 (by kernel_rfl) rfl #[.agg #[.int .i64 1, .int .i64 2, .int .i64 3, .int .i64 4, .int .i64 5]] rfl (by (try simp only [List.map_toArray, List.map_cons, List.map_nil]); first | done | rfl | (simp only [List.length_drop, List.length_take]; rfl)) ?_; (with_reducible refine (packet_Put.calls k 1 2 3 4 5 t134 t137 _ ?sideG_ A1.out).mono ?_); (case sideG_ => exact hG.below rfl (by repeat (first | (with_reducible first | exact HB.out | apply below_alloc | apply pw_below_drewN | apply below_drew1) | exact HB.out))); rintro e w9 ⟨v135, rfl, ho0, hb⟩; refine ⟨_, rfl, ?_⟩; have n0_ := Aside0.mk (Kd.R_lower ho0 (below_size (by repeat (first | (with_reducible first | exact HB.out | apply below_alloc | apply pw_below_drewN | apply below_drew1) | exact HB.out)))); have n1_ := Aside0.mk (below_step (by repeat (first | (with_reducible first | exact HB.out | apply below_alloc | apply pw_below_drewN | apply below_drew1) | exact HB.out)) hb); clear HB; have HO136 := n0_; have HB := n1_; clear n0_ n1_; (try clear hb); (try clear hb2); (try clear hk); (try clear hi); (try clear ho0); obtain ⟨Ao10, co10, eo10⟩ := Kd.R_slice HO136.out; subst eo10; have p138 : 0 ≤ (13 : Int) := (by omega); have q138 : 13 < (t134.length : Int) := of_decide_eq_true (by first | (with_reducible assumption) | assumption); obtain ⟨ad138, e138, hx138_0⟩ := Kd.at_int (Kd.R_reads' HO136.out).2.2 13 p138 q138; cases e138; (try simp only [show (13 : Int).toNat = 13 from rfl, Nat.reduceMul, Nat.reduceEqDiff, Go.Addr.add, ↓reduceIte] at hx138_0); have qi138 : (13 < t134.length) = True := eq_true (by omega); (try rw [show ((13 : Int)).toNat = 13 from rfl] at hx138_0); replace p138 := eq_true p138; replace q138 := eq_true q138; have p139 : 0 ≤ (16 : Int) := (by omega); have q139 : 16 < (t134.length : Int) := of_decide_eq_true (by first | (with_reducible assumption) | assumption); obtain ⟨ad139, e139, hx139_0⟩ := Kd.at_int (Kd.R_reads' HO136.out).2.2 16 p139 q139; obtain rfl : ad138 = ad139 := (by injection e139); (try simp only [show (16 : Int).toNat = 16 from rfl, Nat.reduceMul, Nat.reduceEqDiff, Go.Addr.add, ↓reduceIte] at hx139_0); have qi139 : (16 < t134.length) = True := eq_true (by omega); (try rw [show ((16 : Int)).toNat = 16 from rfl] at hx139_0); replace p139 := eq_true p139; replace q139 := eq_true q139; have p140 : 0 ≤ (17 : Int) := (by omega); have q140 : 17 < (t134.length : Int) := of_decide_eq_true (by first | (with_reducible assumption) | assumption); obtain ⟨ad140, e140, hx140_0⟩ := Kd.at_int (Kd.R_reads' HO136.out).2.2 17 p140 q140; obtain rfl : ad138 = ad140 := (by injection e140); (try simp only [show (17 : Int).toNat = 17 from rfl, Nat.reduceMul, Nat.reduceEqDiff, Go.Addr.add, ↓reduceIte] at hx140_0); have qi140 : (17 < t134.length) = True := eq_true (by omega); (try rw [show ((17 : Int)).toNat = 17 from rfl] at hx140_0); replace p140 := eq_true p140; replace q140 := eq_true q140))
                go_ret
                exact ⟨by first | rfl | (simp [errW_none, errW_some] <;> rfl) | (simp [*, errW_none, errW_some] <;> rfl), by repeat (first | (with_reducible first | exact HB.out | apply below_alloc | apply pw_below_drewN | apply below_drew1) | exact HB.out)⟩
              · rw [if_neg c8] at H
                exact absurd H (by simp)
            · rw [if_neg c7] at H
              have c7b0 : ((rd t134 16) == 255) = false := beq_eq_false_iff_ne.mpr c7
              have c7b1 : ((rd t134 16) != 255) = true := bne_iff_ne.mpr c7
              obtain rfl := Option.some.inj H
              go_enter Tryd.func9, Tryd.ntmps9
              go_wp2_with (first | ((with_reducible refine gate_callee (f := 10) rfl ?_); refine goesL_ (some 5) rfl rfl Tryd.func10 (by kernel_rfl) rfl #[.agg #[.int .i64 1, .int .i64 2, .int .i64 3, .int .i64 4, .int .i64 5]] rfl (by (try simp only [List.map_toArray, List.map_cons, List.map_nil]); first | done | rfl | (simp only [List.length_drop, List.length_take]; rfl)) ?_; (with_reducible refine (packet_Put.calls k 1 2 3 4 5 t134 t137 _ ?sideG_ A1.out).mono ?_); (case sideG_ => exact hG.below rfl (by repeat (first | (with_reducible first | exact HB.out | apply below_alloc | apply pw_below_drewN | apply below_drew1) | exact HB.out))); rintro e w11 ⟨v135, rfl, ho0, hb⟩; refine ⟨_, rfl, ?_⟩; have n0_ := Aside0.mk (Kd.R_lower ho0 (below_size (by repeat (first | (with_reducible first | exact HB.out | apply below_alloc | apply pw_below_drewN | apply below_drew1) | exact HB.out)))); have n1_ := Aside0.mk (below_step (by repeat (first | (with_reducible first | exact HB.out | apply below_alloc | apply pw_below_drewN | apply below_drew1) | exact HB.out)) hb); clear HB; have HO136 := n0_; have HB := n1_; clear n0_ n1_; (try clear hb); (try clear hb2); (try clear hk); (try clear hi); (try clear ho0); obtain ⟨Ao12, co12, eo12⟩ := Kd.R_slice HO136.out; subst eo12; have p138 : 0 ≤ (13 : Int) := (by omega); have q138 : 13 < (t134.length : Int) := of_decide_eq_true (by first | (with_reducible assumption) | assumption); obtain ⟨ad138, e138, hx138_0⟩ := Kd.at_int (Kd.R_reads' HO136.out).2.2 13 p138 q138; cases e138; (try simp only [show (13 : Int).toNat = 13 from rfl, Nat.reduceMul, Nat.reduceEqDiff, Go.Addr.add, ↓reduceIte] at hx138_0); have qi138 : (13 < t134.length) = True := eq_true (by omega); (try rw [show ((13 : Int)).toNat = 13 from rfl] at hx138_0); replace p138 := eq_true p138; replace q138 := eq_true q138; have p139 : 0 ≤ (16 : Int) := (by omega); have q139 : 16 < (t134.length : Int) := of_decide_eq_true (by first | (with_reducible assumption) | assumption); obtain ⟨ad139, e139, hx139_0⟩ := Kd.at_int (Kd.R_reads' HO136.out).2.2 16 p139 q139; obtain rfl : ad138 = ad139 := (by injection e139); (try simp only [show (16 : Int).toNat = 16 from rfl, Nat.reduceMul, Nat.reduceEqDiff, Go.Addr.add, ↓reduceIte] at hx139_0); have qi139 : (16 < t134.length) = True := eq_true (by omega); (try rw [show ((16 : Int)).toNat = 16 from rfl] at hx139_0); replace p139 := eq_true p139; replace q139 := eq_true q139))
              go_ret
              exact ⟨by first | rfl | (simp [errW_none, errW_some] <;> rfl) | (simp [*, errW_none, errW_some] <;> rfl), by repeat (first | (with_reducible first | exact HB.out | apply below_alloc | apply pw_below_drewN | apply below_drew1) | exact HB.out)⟩
          · rw [if_neg c6] at H
            exact absurd H (by simp)
        · rw [if_neg c5] at H
          have c5b0 : ((rd t134 13) == 4) = false := beq_eq_false_iff_ne.mpr c5
          have c5b1 : ((rd t134 13) != 4) = true := bne_iff_ne.mpr c5
          obtain rfl := Option.some.inj H
          go_enter Tryd.func9, Tryd.ntmps9
          go_wp2_with (first | ((with_reducible refine gate_callee (f := 10) rfl ?_); refine goesL_ (some 5) rfl rfl Tryd.func10 (by kernel_rfl) rfl #[.agg #[.int .i64 1, .int .i64 2, .int .i64 3, .int .i64 4, .int .i64 5]] rfl (by (try simp only [List.map_toArray, List.map_cons, List.map_nil]); first | done | rfl | (simp only [List.length_drop, List.length_take]; rfl)) ?_; (with_reducible refine (packet_Put.calls k 1 2 3 4 5 t134 t137 _ ?sideG_ A1.out).mono ?_); (case sideG_ => exact hG.below rfl (by repeat (first | (with_reducible first | exact HB.out | apply below_alloc | apply pw_below_drewN | apply below_drew1) | exact HB.out))); rintro e w13 ⟨v135, rfl, ho0, hb⟩; refine ⟨_, rfl, ?_⟩; have n0_ := Aside0.mk (Kd.R_lower ho0 (below_size (by repeat (first | (with_reducible first | exact HB.out | apply below_alloc | apply pw_below_drewN | apply below_drew1) | exact HB.out)))); have n1_ := Aside0.mk (below_step (by repeat (first | (with_reducible first | exact HB.out | apply below_alloc | apply pw_below_drewN | apply below_drew1) | exact HB.out)) hb); clear HB; have HO136 := n0_; have HB := n1_; clear n0_ n1_; (try clear hb); (try clear hb2); (try clear hk); (try clear hi); (try clear ho0); obtain ⟨Ao14, co14, eo14⟩ := Kd.R_slice HO136.out; subst eo14; have p138 : 0 ≤ (13 : Int) := (by omega); have q138 : 13 < (t134.length : Int) := of_decide_eq_true (by first | (with_reducible assumption) | assumption); obtain ⟨ad138, e138, hx138_0⟩ := Kd.at_int (Kd.R_reads' HO136.out).2.2 13 p138 q138; cases e138; (try simp only [show (13 : Int).toNat = 13 from rfl, Nat.reduceMul, Nat.reduceEqDiff, Go.Addr.add, ↓reduceIte] at hx138_0); have qi138 : (13 < t134.length) = True := eq_true (by omega); (try rw [show ((13 : Int)).toNat = 13 from rfl] at hx138_0); replace p138 := eq_true p138; replace q138 := eq_true q138))
          go_ret
          exact ⟨by first | rfl | (simp [errW_none, errW_some] <;> rfl) | (simp [*, errW_none, errW_some] <;> rfl), by repeat (first | (with_reducible first | exact HB.out | apply below_alloc | apply pw_below_drewN | apply below_drew1) | exact HB.out)⟩
      · rw [if_neg c4] at H
        exact absurd H (by simp)
    · rw [if_neg c3] at H
      have c3b0 : ((t134.length : Int) == 18) = false := beq_eq_false_iff_ne.mpr c3
      have c3b1 : ((t134.length : Int) != 18) = true := bne_iff_ne.mpr c3
      obtain rfl := Option.some.inj H
      go_enter Tryd.func9, Tryd.ntmps9
      go_wp2_with (first | ((with_reducible refine gate_callee (f := 10) rfl ?_); refine goesL_ (some 5) rfl rfl Tryd.func10 (by kernel_rfl) rfl #[.agg #[.int .i64 1, .int .i64 2, .int .i64 3, .int .i64 4, .int .i64 5]] rfl (by (try simp only [List.map_toArray, List.map_cons, List.map_nil]); first | done | rfl | (simp only [List.length_drop, List.length_take]; rfl)) ?_; (with_reducible refine (packet_Put.calls k 1 2 3 4 5 t134 t137 _ ?sideG_ A1.out).mono ?_); (case sideG_ => exact hG.below rfl (by repeat (first | (with_reducible first | exact HB.out | apply below_alloc | apply pw_below_drewN | apply below_drew1) | exact HB.out))); rintro e w15 ⟨v135, rfl, ho0, hb⟩; refine ⟨_, rfl, ?_⟩; have n0_ := Aside0.mk (Kd.R_lower ho0 (below_size (by repeat (first | (with_reducible first | exact HB.out | apply below_alloc | apply pw_below_drewN | apply below_drew1) | exact HB.out)))); have n1_ := Aside0.mk (below_step (by repeat (first | (with_reducible first | exact HB.out | apply below_alloc | apply pw_below_drewN | apply below_drew1) | exact HB.out)) hb); clear HB; have HO136 := n0_; have HB := n1_; clear n0_ n1_; (try clear hb); (try clear hb2); (try clear hk); (try clear hi); (try clear ho0); obtain ⟨Ao16, co16, eo16⟩ := Kd.R_slice HO136.out; subst eo16))
      go_ret
      exact ⟨by first | rfl | (simp [errW_none, errW_some] <;> rfl) | (simp [*, errW_none, errW_some] <;> rfl), by repeat (first | (with_reducible first | exact HB.out | apply below_alloc | apply pw_below_drewN | apply below_drew1) | exact HB.out)⟩
  · rw [if_neg c2] at H
    have c2b0 : (t137 == 0) = false := beq_eq_false_iff_ne.mpr c2
    have c2b1 : (t137 != 0) = true := bne_iff_ne.mpr c2
    obtain rfl := Option.some.inj H
    go_enter Tryd.func9, Tryd.ntmps9
    go_wp2_with (first | ((with_reducible refine gate_callee (f := 10) rfl ?_); refine goesL_ (some 5) rfl rfl Tryd.func10 (by kernel_rfl) rfl #[.agg #[.int .i64 1, .int .i64 2, .int .i64 3, .int .i64 4, .int .i64 5]] rfl (by (try simp only [List.map_toArray, List.map_cons, List.map_nil]); first | done | rfl | (simp only [List.length_drop, List.length_take]; rfl)) ?_; (with_reducible refine (packet_Put.calls k 1 2 3 4 5 t134 t137 _ ?sideG_ A1.out).mono ?_); (case sideG_ => exact hG.below rfl (by repeat (first | (with_reducible first | exact HB.out | apply below_alloc | apply pw_below_drewN | apply below_drew1) | exact HB.out))); rintro e w17 ⟨v135, rfl, ho0, hb⟩; refine ⟨_, rfl, ?_⟩; have n0_ := Aside0.mk (Kd.R_lower ho0 (below_size (by repeat (first | (with_reducible first | exact HB.out | apply below_alloc | apply pw_below_drewN | apply below_drew1) | exact HB.out)))); have n1_ := Aside0.mk (below_step (by repeat (first | (with_reducible first | exact HB.out | apply below_alloc | apply pw_below_drewN | apply below_drew1) | exact HB.out)) hb); clear HB; have HO136 := n0_; have HB := n1_; clear n0_ n1_; (try clear hb); (try clear hb2); (try clear hk); (try clear hi); (try clear ho0)))
    go_ret
    exact ⟨by first | rfl | (simp [errW_none, errW_some] <;> rfl) | (simp [*, errW_none, errW_some] <;> rfl), by repeat (first | (with_reducible first | exact HB.out | apply below_alloc | apply pw_below_drewN | apply below_drew1) | exact HB.out)⟩

end Go.Proofs.YtkidokbeabmpmaaDoor.All
