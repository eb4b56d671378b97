/- Contracts of Go functions that this seat comes to, each with a plain function that tells its answers; conditions: those that each contract names. Written by a program of this session (wip/print) over the print words. -/
import Derived.Test.YtpaoofkahhhjaaaDoorQ5Allx0
import Derived.Test.YtpaoofkahhhjaaaDoorQ5Allx7
namespace Go.Proofs.YtpaoofkahhhjaaaDoor.All
open Go.RowKit Go.Proofs.YtpaoofkahhhjaaaDoorW.PrintWords Go.Proofs.YtpaoofkahhhjaaaDoorW.PrintLast Go.Proofs.YtpaoofkahhhjaaaDoorW.PrintMore
attribute [local go_sem] max2_int min2_int max_two min_two max_three min_three max_four min_four
set_option linter.unusedVariables false
set_option linter.unusedSimpArgs false
def wayfinderlaw06_awake.f (k : Nat)  : Option (Bool) := (frame_Seal.f k 0 3 0 0 0 0 0 0 0 0).bind fun Q0 => (if Q0.2 = 0 then (some ((strOfNums Q0.1).toList == ([197, 9, 0, 0, 0, 3, 0, 0, 0, 0, 0, 0, 58, 243] : List UInt8))) else (some false))
theorem wayfinderlaw06_awake.mono : ∀ k, LeO (wayfinderlaw06_awake.f k ) (wayfinderlaw06_awake.f (k + 1) ) := by
 intro  k
 unfold wayfinderlaw06_awake.f
 repeat' first
   | (with_reducible exact frame_Seal.mono _ _ _ _ _ _ _ _ _ _ _)
   | (with_reducible exact LeO.refl _)
   | (with_reducible exact LeO.none _)
   | (with_reducible refine LeO.ite ?_ ?_)
   | (with_reducible refine LeO.bind ?_ (fun _ => ?_))
   | exact frame_Seal.mono _ _ _ _ _ _ _ _ _ _ _
   | exact LeO.none _
   | refine LeO.ite ?_ ?_
   | refine LeO.bind ?_ (fun _ => ?_)
set_option maxHeartbeats 8000000 in
set_option maxRecDepth 100000 in
theorem wayfinderlaw06_awake.calls (k : Nat)  (r : Bool) (w : World) (hG : Glob w) (h : wayfinderlaw06_awake.f k  = some r) :
  Calls Tryd.prog 9 #[] w fun e w' => e = .returned (.bool r) ∧ Below w.heap.size w w' := by
 have hu29 := Tryd.underlying29
 have HB := Aside0.mk (Below.refl w.heap.size w)
 have H : ((frame_Seal.f k 0 3 0 0 0 0 0 0 0 0).bind fun Q0 => (if Q0.2 = 0 then (some ((strOfNums Q0.1).toList == ([197, 9, 0, 0, 0, 3, 0, 0, 0, 0, 0, 0, 58, 243] : List UInt8))) else (some false))) = some r := h
 clear h
 replace H := Option.bind_eq_some_iff.mp H
 obtain ⟨⟨t162, t165⟩, A10, H⟩ := H
 replace H : (if t165 = 0 then (some ((strOfNums t162).toList == ([197, 9, 0, 0, 0, 3, 0, 0, 0, 0, 0, 0, 58, 243] : List UInt8))) else (some false)) = some r := H
 have A1 := Aside0.mk A10
 clear A10
 by_cases c2 : t165 = 0
 ·rw [if_pos c2] at H
  have c2b0 : (t165 == 0) = true := beq_iff_eq.mpr c2
  have c2b1 : (t165 != 0) = false := bne_eq_false_iff_eq.mpr c2
  clear c2
  obtain rfl := Option.some.inj H
  go_enter Tryd.func9, Tryd.ntmps9
  go_wp2_with (first | ((with_reducible refine qqr (f := 10) rfl ?_); refine goesL_ (some 5) rfl rfl Tryd.func10 (by kernel_rfl) rfl #[.agg #[.int .i64 0, .int .i64 3, .int .i64 0, .int .i64 0, .int .i64 0, .int .i64 0, .int .i64 0, .int .i64 0, .int .i64 0, .int .i64 0]] rfl (by (try simp only [List.map_toArray, List.map_cons, List.map_nil]); first | done | rfl | (simp only [List.length_drop, List.length_take]; rfl)) ?_; (with_reducible refine (frame_Seal.calls k 0 3 0 0 0 0 0 0 0 0 t162 t165 _ ?sideG_ A1.out).mono ?_); (case sideG_ => exact hG.below rfl (by repeat (first | (with_reducible first | exact HB.out | apply qqc | apply qqa | apply qqb) | exact HB.out))); rintro e w3 ⟨v163, rfl, ho0, hb⟩; refine ⟨_, rfl, ?_⟩; have HO164 := Aside0.mk (Kd.R_lower ho0 (qqu (by repeat (first | (with_reducible first | exact HB.out | apply qqc | apply qqa | apply qqb) | exact HB.out)))); replace HB := bst HB hb; (try clear hb); (try clear ho0); have hcv4 := own_string (P := Tryd.prog) Tryd.underlying31 Tryd.underlying5 Tryd.underlying9 (Kd.own_of_R HO164.out); have hcv5 := fun (n_ : Nat) => own_string (P := Tryd.prog) Tryd.underlying31 Tryd.underlying5 Tryd.underlying9 (Kd.own_of_R (Kd.R_drewN HO164.out n_))))
  go_ret
  exact ⟨by first | rfl | (simp [qqj, qqi] <;> rfl) | (simp [*, qqj, qqi] <;> rfl), by repeat (first | (with_reducible first | exact HB.out | apply qqc | apply qqa | apply qqb) | exact HB.out)⟩
 ·rw [if_neg c2] at H
  have c2b0 : (t165 == 0) = false := beq_eq_false_iff_ne.mpr c2
  have c2b1 : (t165 != 0) = true := bne_iff_ne.mpr c2
  obtain rfl := Option.some.inj H
  go_enter Tryd.func9, Tryd.ntmps9
  go_wp2_with (first | ((with_reducible refine qqr (f := 10) rfl ?_); refine goesL_ (some 5) rfl rfl Tryd.func10 (by kernel_rfl) rfl #[.agg #[.int .i64 0, .int .i64 3, .int .i64 0, .int .i64 0, .int .i64 0, .int .i64 0, .int .i64 0, .int .i64 0, .int .i64 0, .int .i64 0]] rfl (by (try simp only [List.map_toArray, List.map_cons, List.map_nil]); first | done | rfl | (simp only [List.length_drop, List.length_take]; rfl)) ?_; (with_reducible refine (frame_Seal.calls k 0 3 0 0 0 0 0 0 0 0 t162 t165 _ ?sideG_ A1.out).mono ?_); (case sideG_ => exact hG.below rfl (by repeat (first | (with_reducible first | exact HB.out | apply qqc | apply qqa | apply qqb) | exact HB.out))); rintro e w6 ⟨v163, rfl, ho0, hb⟩; refine ⟨_, rfl, ?_⟩; have HO164 := Aside0.mk (Kd.R_lower ho0 (qqu (by repeat (first | (with_reducible first | exact HB.out | apply qqc | apply qqa | apply qqb) | exact HB.out)))); replace HB := bst HB hb; (try clear hb); (try clear ho0)))
  go_ret
  exact ⟨by first | rfl | (simp [qqj, qqi] <;> rfl) | (simp [*, qqj, qqi] <;> rfl), by repeat (first | (with_reducible first | exact HB.out | apply qqc | apply qqa | apply qqb) | exact HB.out)⟩
end Go.Proofs.YtpaoofkahhhjaaaDoor.All
