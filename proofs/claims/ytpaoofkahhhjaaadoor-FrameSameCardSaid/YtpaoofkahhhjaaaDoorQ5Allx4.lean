/- Contracts of Go functions that this seat comes to, each with a plain function that tells its answers; conditions: those that each contract names. Written by a program of this session (wip/print) over the print words. -/
import Derived.Test.YtpaoofkahhhjaaaDoorQ5Allx0
namespace Go.Proofs.YtpaoofkahhhjaaaDoor.All
open Go.RowKit Go.Proofs.YtpaoofkahhhjaaaDoorW.PrintWords Go.Proofs.YtpaoofkahhhjaaaDoorW.PrintLast Go.Proofs.YtpaoofkahhhjaaaDoorW.PrintMore
attribute [local go_sem] max2_int min2_int max_two min_two max_three min_three max_four min_four
set_option linter.unusedVariables false
set_option linter.unusedSimpArgs false
def bits_bound.f (a0 : Int) : Option (Int) := some (mn (mx a0 0) 32)
set_option maxHeartbeats 8000000 in
set_option maxRecDepth 100000 in
theorem bits_bound.calls (a0 : Int) (r : Int) (w : World) (h : bits_bound.f a0 = some r) :
  Calls Tryd.prog 50 #[.int .i64 a0] w fun e w' => e = .returned (.int .i64 r) ∧ Below w.heap.size w w' := by
 have HB := Aside0.mk (Below.refl w.heap.size w)
 have H : (some (mn (mx a0 0) 32)) = some r := h
 clear h
 obtain ⟨ji2, hji2⟩ : ∃ j_ : Int, (mx a0 0) = j_ := ⟨_, rfl⟩
 replace H : (some (mn (ji2) 32)) = some r := by first | (rw [hji2] at H; exact H) | (simp only [hji2] at H ⊢; exact H)
 (try (have hji2l : 0 ≤ ji2 := by (rw [← hji2]; unfold mx; (repeat' split) <;> omega)))
 (try (have hji2m : 0 ≤ ji2 := by omega))
 have hji2_ : (if a0 < 0 then 0 else a0) = ji2 := hji2
 obtain ⟨ji3, hji3⟩ : ∃ j_ : Int, (mn (ji2) 32) = j_ := ⟨_, rfl⟩
 replace H : (some ji3) = some r := by first | (rw [hji3] at H; exact H) | (simp only [hji3] at H ⊢; exact H)
 have hji3_ : (if 32 < (ji2) then 32 else (ji2)) = ji3 := hji3
 obtain rfl := Option.some.inj H
 go_enter Tryd.func50, Tryd.ntmps50
 go_wp2
 go_ret
 exact ⟨by first | rfl | (simp [qqj, qqi] <;> rfl) | (simp only [← hji2, ← hji3]; first | rfl | (simp [qqj, qqi] <;> rfl)) | (simp [*, qqj, qqi] <;> rfl), by repeat (first | (with_reducible first | exact HB.out | apply qqc | apply qqa | apply qqb) | exact HB.out)⟩
def bits_Mask.f (a0 : Int) : Option (Int) := (bits_bound.f a0).bind fun Q0 => (if 0 ≤ (wrap64 (32 - Q0)) then (some ((shl .u64 4294967295 (wrap64 (32 - Q0))) % 4294967296)) else (none))
set_option maxHeartbeats 8000000 in
set_option maxRecDepth 100000 in
theorem bits_Mask.calls (a0 : Int) (r : Int) (w : World) (h : bits_Mask.f a0 = some r) :
  Calls Tryd.prog 48 #[.int .i64 a0] w fun e w' => e = .returned (.int .i64 r) ∧ Below w.heap.size w w' := by
 have HB := Aside0.mk (Below.refl w.heap.size w)
 have H : ((bits_bound.f a0).bind fun Q0 => (if 0 ≤ (wrap64 (32 - Q0)) then (some ((shl .u64 4294967295 (wrap64 (32 - Q0))) % 4294967296)) else (none))) = some r := h
 clear h
 replace H := Option.bind_eq_some_iff.mp H
 obtain ⟨Q0, A20, H⟩ := H
 replace H : (if 0 ≤ (wrap64 (32 - Q0)) then (some ((shl .u64 4294967295 (wrap64 (32 - Q0))) % 4294967296)) else (none)) = some r := H
 have A2 := Aside0.mk A20
 clear A20
 obtain ⟨ji3, hji3⟩ : ∃ j_ : Int, (wrap64 (32 - Q0)) = j_ := ⟨_, rfl⟩
 replace H : (if 0 ≤ (ji3) then (some ((shl .u64 4294967295 (ji3)) % 4294967296)) else (none)) = some r := by first | (rw [hji3] at H; exact H) | (simp only [hji3] at H ⊢; exact H)
 (try rw [hji3] at A2)
 have hji3w : (IntKind.i64.wrap (32 - Q0)) = ji3 := (qqo _).trans hji3
 by_cases c4 : 0 ≤ (ji3)
 ·rw [if_pos c4] at H
  have c4b0 := eq_true c4
  have c4b1 : decide (0 ≤ (ji3)) = true := decide_eq_true c4
  clear c4
  obtain ⟨ji5, hji5⟩ : ∃ j_ : Int, (shl .u64 4294967295 (ji3)) = j_ := ⟨_, rfl⟩
  replace H : (some ((ji5) % 4294967296)) = some r := by first | (rw [hji5] at H; exact H) | (simp only [hji5] at H ⊢; exact H)
  (try rw [hji5] at A2)
  have hji5_ : (IntKind.u64.wrap (4294967295 * 2 ^ min (ji3).toNat 64)) = ji5 := hji5
  have hji5z : (ji3) ≤ 64 → (IntKind.u64.wrap (4294967295 * 2 ^ (ji3).toNat)) = ji5 := shl_small hji5
  obtain rfl := Option.some.inj H
  go_enter Tryd.func48, Tryd.ntmps48
  go_wp2_with (first | ((with_reducible refine qqr (f := 50) rfl ?_); refine goesL_ (some 5) rfl rfl Tryd.func50 (by kernel_rfl) rfl #[.int .i64 a0] rfl (by (try simp only [List.map_toArray, List.map_cons, List.map_nil]); first | done | rfl | (simp only [List.length_drop, List.length_take]; rfl)) ?_; (with_reducible refine (bits_bound.calls a0 Q0 _ A2.out).mono ?_); rintro e w6 ⟨rfl, hb⟩; refine ⟨_, rfl, ?_⟩; replace HB := bst HB hb; (try clear hb)))
  go_ret
  exact ⟨by first | rfl | (simp [qqj, qqi] <;> rfl) | (simp only [← hji3, ← hji5]; first | rfl | (simp [qqj, qqi] <;> rfl)) | (simp [*, qqj, qqi] <;> rfl), by repeat (first | (with_reducible first | exact HB.out | apply qqc | apply qqa | apply qqb) | exact HB.out)⟩
 ·rw [if_neg c4] at H
  exact absurd H (by simp)
end Go.Proofs.YtpaoofkahhhjaaaDoor.All
