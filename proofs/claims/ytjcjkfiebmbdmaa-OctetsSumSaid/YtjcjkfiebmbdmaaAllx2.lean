/- Contracts of Go functions that this seat comes to, each with a plain function that tells its answers; conditions: those that each contract names. Written by a program of this session (wip/print) over the print words. -/
import Derived.Test.YtjcjkfiebmbdmaaAllx0
import Derived.Test.YtjcjkfiebmbdmaaAllx1
namespace Go.Proofs.Ytjcjkfiebmbdmaa.All
open Go.RowKit Go.Proofs.YtjcjkfiebmbdmaaW.PrintWords Go.Proofs.YtjcjkfiebmbdmaaW.PrintLast Go.Proofs.YtjcjkfiebmbdmaaW.PrintMore
attribute [local go_sem] max2_int min2_int max_two min_two max_three min_three max_four min_four   -- for this text's walks alone
set_option linter.unusedVariables false
set_option linter.unusedSimpArgs false

/-! ### wayfinderlaw02_OctetsSum: function 3 -/
mutual
def wayfinderlaw02_OctetsSum.j0 : Nat → List Int → Int → Int → Bool → Bool → Option (Bool)
  | 0, _, _, _, _, _ => none
  | k + 1, x0, x1, x2, x7, x25 => if x25 = true then (some x7) else ((octets_Sum.f x0).bind fun t119 => ((octets_Put.f k t119 2).bind fun bt120 => (if ([] : List Int).length + x0.length < 140737488355328 then ((some (([] : List Int) ++ x0 : List Int)).bind fun y124 => (if y124.length + bt120.1.length < 140737488355328 then ((some (y124 ++ bt120.1 : List Int)).bind fun y127 => (if bt120.2 = 0 then ((octets_Sum.f y127).bind fun t130 => (wayfinderlaw02_OctetsSum.j1 k x0 x1 x2 y127 (t130 != 0))) else (wayfinderlaw02_OctetsSum.j1 k x0 x1 x2 y127 true))) else (none))) else (none))))
def wayfinderlaw02_OctetsSum.j1 : Nat → List Int → Int → Int → List Int → Bool → Option (Bool)
  | 0, _, _, _, _, _ => none
  | k + 1, x0, x1, x2, x11, x44 => if x44 = true then (some false) else (if x1 < 0 then (some true) else (if x1 ≥ (x0.length : Int) then (some true) else (if x2 = 0 then (some true) else (if 0 ≤ x1 then (if x1 < (x11.length : Int) then ((octets_Sum.f (x11.set (x1 : Int).toNat (Go.bits .xor .u8 (rd x11 x1) x2))).bind fun t133 => (some (t133 != 0))) else (none)) else (none)))))
end
def wayfinderlaw02_OctetsSum.f (k : Nat) (l0 : List Int) (a1 : Int) (a2 : Int) : Option (Bool) := (wayfinderlaw02_awake.f k).bind fun t118 => (if t118 = true then (if (l0.length : Int) > 3000 then (wayfinderlaw02_OctetsSum.j0 k l0 a1 a2 t118 true) else (wayfinderlaw02_OctetsSum.j0 k l0 a1 a2 t118 (((l0.length : Int) % 2) != 0))) else (wayfinderlaw02_OctetsSum.j0 k l0 a1 a2 t118 true))
theorem wayfinderlaw02_OctetsSum.mono_l : ∀ k, (∀ y0 y1 y2 y3 y4, LeO (wayfinderlaw02_OctetsSum.j0 k y0 y1 y2 y3 y4) (wayfinderlaw02_OctetsSum.j0 (k + 1) y0 y1 y2 y3 y4)) ∧ (∀ y0 y1 y2 y3 y4, LeO (wayfinderlaw02_OctetsSum.j1 k y0 y1 y2 y3 y4) (wayfinderlaw02_OctetsSum.j1 (k + 1) y0 y1 y2 y3 y4))
  | 0 => ⟨fun _ _ _ _ _ r h => by simp [wayfinderlaw02_OctetsSum.j0] at h, fun _ _ _ _ _ r h => by simp [wayfinderlaw02_OctetsSum.j1] at h⟩
  | k + 1 => by
    obtain ⟨ih0, ih1⟩ := wayfinderlaw02_OctetsSum.mono_l k
    refine ⟨?_, ?_⟩
    · intro y0 y1 y2 y3 y4
      unfold wayfinderlaw02_OctetsSum.j0
      repeat' first
      | (with_reducible exact ih0 _ _ _ _ _)
      | (with_reducible exact ih1 _ _ _ _ _)
      | (with_reducible exact octets_Put.mono _ _ _)
      | (with_reducible exact wayfinderlaw02_awake.mono _)
      | (with_reducible exact LeO.refl _)
      | (with_reducible exact LeO.none _)
      | (with_reducible refine LeO.ite ?_ ?_)
      | (with_reducible refine LeO.bind ?_ (fun _ => ?_))
      | exact ih0 _ _ _ _ _
      | exact ih1 _ _ _ _ _
      | exact octets_Put.mono _ _ _
      | exact wayfinderlaw02_awake.mono _
      | exact LeO.none _
      | refine LeO.ite ?_ ?_
      | refine LeO.bind ?_ (fun _ => ?_)
    · intro y0 y1 y2 y3 y4
      unfold wayfinderlaw02_OctetsSum.j1
      repeat' first
      | (with_reducible exact ih0 _ _ _ _ _)
      | (with_reducible exact ih1 _ _ _ _ _)
      | (with_reducible exact octets_Put.mono _ _ _)
      | (with_reducible exact wayfinderlaw02_awake.mono _)
      | (with_reducible exact LeO.refl _)
      | (with_reducible exact LeO.none _)
      | (with_reducible refine LeO.ite ?_ ?_)
      | (with_reducible refine LeO.bind ?_ (fun _ => ?_))
      | exact ih0 _ _ _ _ _
      | exact ih1 _ _ _ _ _
      | exact octets_Put.mono _ _ _
      | exact wayfinderlaw02_awake.mono _
      | exact LeO.none _
      | refine LeO.ite ?_ ?_
      | refine LeO.bind ?_ (fun _ => ?_)
theorem wayfinderlaw02_OctetsSum.mono : ∀ a0 a1 a2 k, LeO (wayfinderlaw02_OctetsSum.f k a0 a1 a2) (wayfinderlaw02_OctetsSum.f (k + 1) a0 a1 a2) := by
  intro a0 a1 a2 k
  obtain ⟨ih0, ih1⟩ := wayfinderlaw02_OctetsSum.mono_l k
  unfold wayfinderlaw02_OctetsSum.f
  repeat' first
      | (with_reducible exact ih0 _ _ _ _ _)
      | (with_reducible exact ih1 _ _ _ _ _)
      | (with_reducible exact octets_Put.mono _ _ _)
      | (with_reducible exact wayfinderlaw02_awake.mono _)
      | (with_reducible exact LeO.refl _)
      | (with_reducible exact LeO.none _)
      | (with_reducible refine LeO.ite ?_ ?_)
      | (with_reducible refine LeO.bind ?_ (fun _ => ?_))
      | exact ih0 _ _ _ _ _
      | exact ih1 _ _ _ _ _
      | exact octets_Put.mono _ _ _
      | exact wayfinderlaw02_awake.mono _
      | exact LeO.none _
      | refine LeO.ite ?_ ?_
      | refine LeO.bind ?_ (fun _ => ?_)
set_option maxHeartbeats 8000000 in
set_option maxRecDepth 100000 in
theorem wayfinderlaw02_OctetsSum.calls (k : Nat) (A0 : Option Addr) (c0 : Nat) (l0 : List Int) (a1 : Int) (a2 : Int) (r : Bool) (w : World) (hr0 : Kd.C (Kd.int .u8) w A0 l0.length l0) (hc0 : l0.length ≤ c0) (h : wayfinderlaw02_OctetsSum.f k l0 a1 a2 = some r) :
    Calls Try.prog 3 #[.slice A0 l0.length c0, .int .i64 a1, .int .u8 a2] w fun e w' => e = .returned (.bool r) ∧ Below w.heap.size w w' := by
  have HR0 := Aside0.mk hr0
  have HC0 := Aside0.mk hc0
  clear hr0 hc0
  have HB := Aside0.mk (Below.refl w.heap.size w)
  have H : ((wayfinderlaw02_awake.f k).bind fun t118 => (if t118 = true then (if (l0.length : Int) > 3000 then (wayfinderlaw02_OctetsSum.j0 k l0 a1 a2 t118 true) else (wayfinderlaw02_OctetsSum.j0 k l0 a1 a2 t118 (((l0.length : Int) % 2) != 0))) else (wayfinderlaw02_OctetsSum.j0 k l0 a1 a2 t118 true))) = some r := h
  clear h
  replace H := Option.bind_eq_some_iff.mp H
  obtain ⟨t118, A40, H⟩ := H
  replace H : (if t118 = true then (if (l0.length : Int) > 3000 then (wayfinderlaw02_OctetsSum.j0 k l0 a1 a2 t118 true) else (wayfinderlaw02_OctetsSum.j0 k l0 a1 a2 t118 (((l0.length : Int) % 2) != 0))) else (wayfinderlaw02_OctetsSum.j0 k l0 a1 a2 t118 true)) = some r := H
  have A4 := Aside0.mk A40
  clear A40
  have HC5 := Aside0.mk H
  clear H
  go_enter Try.func3, Try.ntmps3
  go_upto_region 2 with (first | ((with_reducible refine gate_callee (f := 11) rfl ?_); refine goesL_ (some 12) rfl rfl Try.func11 (by kernel_rfl) rfl #[] rfl (by (try simp only [List.map_toArray, List.map_cons, List.map_nil]); first | done | rfl | (simp only [List.length_drop, List.length_take]; rfl)) ?_; (with_reducible refine (wayfinderlaw02_awake.calls k  t118 _ A4.out).mono ?_); rintro e w6 ⟨rfl, hb⟩; refine ⟨_, rfl, ?_⟩; have n0_ := Aside0.mk (below_step (by repeat (first | (with_reducible first | exact HB.out | apply below_alloc | apply pw_below_drewN | apply below_drew1) | exact HB.out)) hb); clear HB; have HB := n0_; clear n0_; (try clear hb); (try clear hb2); (try clear hk); (try clear hi)))
  (try simp only [Act.put, List.setIfInBounds_toArray, List.set_cons_zero, List.set_cons_succ])
  go_cut [25] (fun v25 wc => ∃ (kq : Nat) (x25_4 : Bool), v25 = .bool x25_4 ∧ Aside0 (wayfinderlaw02_OctetsSum.j0 kq l0 a1 a2 t118 x25_4 = some r) ∧ Aside0 (kq ≤ k) ∧ Aside0 (Below w.heap.size w wc))
  case first =>
    have H := HC5.out
    clear HC5
    by_cases c7 : t118 = true
    · subst c7
      have H1 : (if (l0.length : Int) > 3000 then (wayfinderlaw02_OctetsSum.j0 k l0 a1 a2 true true) else (wayfinderlaw02_OctetsSum.j0 k l0 a1 a2 true (((l0.length : Int) % 2) != 0))) = some r := by rw [if_pos rfl] at H; exact H
      clear H
      have H := H1
      clear H1
      by_cases c8 : (l0.length : Int) > 3000
      · rw [if_pos c8] at H
        have c8b0 : decide (3000 < (l0.length : Int)) = true := decide_eq_true c8
        have c8b1 : decide (3000 < l0.length) = true := decide_eq_true (by omega)
        clear c8
        (first | rw [c8b0] | (simp only [i64_w, i32_w]; rw [c8b0]) | skip)
        have H' := Aside0.mk H
        clear H
        go_wp2
        go_meet
        case rel => exact ⟨_, (true), (by first | rfl | (simp; done) | (simp [*]; done)), H', ⟨by first | omega | exact Nat.le_refl _⟩, ⟨by repeat (first | (with_reducible first | exact HB.out | apply below_alloc | apply pw_below_drewN | apply below_drew1) | exact HB.out)⟩⟩
      · rw [if_neg c8] at H
        have c8b0 : decide (3000 < (l0.length : Int)) = false := decide_eq_false c8
        have c8b1 : decide (3000 < l0.length) = false := decide_eq_false (by omega)
        clear c8
        (first | rw [c8b0] | (simp only [i64_w, i32_w]; rw [c8b0]) | skip)
        have H' := Aside0.mk H
        clear H
        go_wp2
        go_meet
        case rel => exact ⟨_, ((((l0.length : Int) % 2) != 0)), (by first | rfl | (simp; done) | (simp [*]; done)), H', ⟨by first | omega | exact Nat.le_refl _⟩, ⟨by repeat (first | (with_reducible first | exact HB.out | apply below_alloc | apply pw_below_drewN | apply below_drew1) | exact HB.out)⟩⟩
    · replace c7 := Bool.eq_false_iff.mpr c7
      subst c7
      have H1 : (wayfinderlaw02_OctetsSum.j0 k l0 a1 a2 false true) = some r := by rw [if_neg (show ¬ (false = true) by decide)] at H; exact H
      clear H
      have H := H1
      clear H1
      have H' := Aside0.mk H
      clear H
      go_wp2
      go_meet
      case rel => exact ⟨_, (true), (by first | rfl | (simp; done) | (simp [*]; done)), H', ⟨by first | omega | exact Nat.le_refl _⟩, ⟨by repeat (first | (with_reducible first | exact HB.out | apply below_alloc | apply pw_below_drewN | apply below_drew1) | exact HB.out)⟩⟩
  case rest =>
    clear HC5
    try clear c1
    try clear p2
    try clear c3
    try clear c7
    try clear c8
    try clear c8b0
    try clear c8b1
    obtain ⟨kq, x25_4, rfl, HA, HJ4, HB⟩ := hcut
    cases kq with
    | zero => exact absurd HA.out (by simp [wayfinderlaw02_OctetsSum.j0])
    | succ kj4 =>
      have H := HA.out
      clear HA
      simp only [wayfinderlaw02_OctetsSum.j0] at H
      by_cases c9 : x25_4 = true
      · subst c9
        have H1 : (some t118) = some r := by rw [if_pos rfl] at H; exact H
        clear H
        have H := H1
        clear H1
        obtain rfl := Option.some.inj H
        go_wp2
        go_ret
        exact ⟨by first | rfl | (simp [errW_none, errW_some] <;> rfl) | (simp [*, errW_none, errW_some] <;> rfl), by repeat (first | (with_reducible first | exact HB.out | apply below_alloc | apply pw_below_drewN | apply below_drew1) | exact HB.out)⟩
      · replace c9 := Bool.eq_false_iff.mpr c9
        subst c9
        have H1 : ((octets_Sum.f l0).bind fun t119 => ((octets_Put.f kj4 t119 2).bind fun bt120 => (if ([] : List Int).length + l0.length < 140737488355328 then ((some (([] : List Int) ++ l0 : List Int)).bind fun y124 => (if y124.length + bt120.1.length < 140737488355328 then ((some (y124 ++ bt120.1 : List Int)).bind fun y127 => (if bt120.2 = 0 then ((octets_Sum.f y127).bind fun t130 => (wayfinderlaw02_OctetsSum.j1 kj4 l0 a1 a2 y127 (t130 != 0))) else (wayfinderlaw02_OctetsSum.j1 kj4 l0 a1 a2 y127 true))) else (none))) else (none)))) = some r := by rw [if_neg (show ¬ (false = true) by decide)] at H; exact H
        clear H
        have H := H1
        clear H1
        replace H := Option.bind_eq_some_iff.mp H
        obtain ⟨t119, A100, H⟩ := H
        replace H : ((octets_Put.f kj4 t119 2).bind fun bt120 => (if ([] : List Int).length + l0.length < 140737488355328 then ((some (([] : List Int) ++ l0 : List Int)).bind fun y124 => (if y124.length + bt120.1.length < 140737488355328 then ((some (y124 ++ bt120.1 : List Int)).bind fun y127 => (if bt120.2 = 0 then ((octets_Sum.f y127).bind fun t130 => (wayfinderlaw02_OctetsSum.j1 kj4 l0 a1 a2 y127 (t130 != 0))) else (wayfinderlaw02_OctetsSum.j1 kj4 l0 a1 a2 y127 true))) else (none))) else (none))) = some r := H
        have A10 := Aside0.mk A100
        clear A100
        replace H := Option.bind_eq_some_iff.mp H
        obtain ⟨⟨t120, t121⟩, A110, H⟩ := H
        replace H : (if ([] : List Int).length + l0.length < 140737488355328 then ((some (([] : List Int) ++ l0 : List Int)).bind fun y124 => (if y124.length + t120.length < 140737488355328 then ((some (y124 ++ t120 : List Int)).bind fun y127 => (if t121 = 0 then ((octets_Sum.f y127).bind fun t130 => (wayfinderlaw02_OctetsSum.j1 kj4 l0 a1 a2 y127 (t130 != 0))) else (wayfinderlaw02_OctetsSum.j1 kj4 l0 a1 a2 y127 true))) else (none))) else (none)) = some r := H
        have A11 := Aside0.mk A110
        clear A110
        by_cases c12 : ([] : List Int).length + l0.length < 140737488355328
        · rw [if_pos c12] at H
          have LMc12 := Aside0.mk c12
          clear c12
          obtain ⟨y124, hy124⟩ : ∃ y_ : List Int, y_ = (([] : List Int) ++ l0) := ⟨_, rfl⟩
          replace H : (if y124.length + t120.length < 140737488355328 then ((some (y124 ++ t120 : List Int)).bind fun y127 => (if t121 = 0 then ((octets_Sum.f y127).bind fun t130 => (wayfinderlaw02_OctetsSum.j1 kj4 l0 a1 a2 y127 (t130 != 0))) else (wayfinderlaw02_OctetsSum.j1 kj4 l0 a1 a2 y127 true))) else (none)) = some r := by first | (rw [hy124]; with_reducible exact H) | (have H2_ := (Option.bind_some _ _).symm.trans H; rw [hy124]; with_reducible exact H2_) | (have H2_ := (Option.bind_some _ _).symm.trans H; with_reducible exact H2_) | with_reducible exact H | (rw [hy124]; exact H) | exact H
          have Ny124 := Aside0.mk hy124
          clear hy124
          by_cases c13 : y124.length + t120.length < 140737488355328
          · rw [if_pos c13] at H
            have LMc13 := Aside0.mk c13
            clear c13
            obtain ⟨y127, hy127⟩ : ∃ y_ : List Int, y_ = (y124 ++ t120) := ⟨_, rfl⟩
            replace H : (if t121 = 0 then ((octets_Sum.f y127).bind fun t130 => (wayfinderlaw02_OctetsSum.j1 kj4 l0 a1 a2 y127 (t130 != 0))) else (wayfinderlaw02_OctetsSum.j1 kj4 l0 a1 a2 y127 true)) = some r := by first | (rw [hy127]; with_reducible exact H) | (have H2_ := (Option.bind_some _ _).symm.trans H; rw [hy127]; with_reducible exact H2_) | (have H2_ := (Option.bind_some _ _).symm.trans H; with_reducible exact H2_) | with_reducible exact H | (rw [hy127]; exact H) | exact H
            have Ny127 := Aside0.mk hy127
            clear hy127
            have HC14 := Aside0.mk H
            clear H
            go_upto_region 7 with (first | ((with_reducible refine gate_callee (f := 12) rfl ?_); refine goesL_ (some 28) rfl rfl Try.func12 (by kernel_rfl) rfl #[.slice A0 l0.length c0] rfl (by (try simp only [List.map_toArray, List.map_cons, List.map_nil]); first | done | rfl | (simp only [List.length_drop, List.length_take]; rfl)) ?_; (with_reducible refine (octets_Sum.calls _ _ l0 t119 _ ?side1 ?side2 A10.out).mono ?_); (case side1 => repeat (first | exact (Kd.C_below HR0.out HB.out) | (with_reducible refine Kd.C_alloc ?_ _) | (with_reducible refine Kd.C_drewN ?_ _) | (with_reducible refine Kd.C_drew ?_))); (case side2 => exact HC0.out); rintro e w' ⟨rfl, ⟨nd, rfl⟩⟩; refine ⟨_, rfl, ?_⟩) | ((with_reducible refine gate_callee (f := 13) rfl ?_); refine goesL_ (some 31) rfl rfl Try.func13 (by kernel_rfl) rfl #[.int .i64 t119, .int .i64 2] rfl (by (try simp only [List.map_toArray, List.map_cons, List.map_nil]); first | done | rfl | (simp only [List.length_drop, List.length_take]; rfl)) ?_; (with_reducible refine (octets_Put.calls kj4 t119 2 t120 t121 _ A11.out).mono ?_); rintro e w15 ⟨v122, rfl, ho0, hb⟩; refine ⟨_, rfl, ?_⟩; have n0_ := Aside0.mk (Kd.R_lower ho0 (below_size (by repeat (first | (with_reducible first | exact HB.out | apply below_alloc | apply pw_below_drewN | apply below_drew1) | exact HB.out)))); have n1_ := Aside0.mk (below_step (by repeat (first | (with_reducible first | exact HB.out | apply below_alloc | apply pw_below_drewN | apply below_drew1) | exact HB.out)) hb); clear HB; have HO123 := n0_; have HB := n1_; clear n0_ n1_; (try clear hb); (try clear hb2); (try clear hk); (try clear hi); (try clear ho0)) | ((with_reducible refine gate_builtin (b := .append) (xs := #[.const (.slice none 0 0), .tmp 34]) rfl ?_); (try (refine gate_guard (by rfl) ?_; dsimp only)); at_builtin; refine Kd.R_append_rows (Kd.int .u8) (w0 := w) w.heap.size rfl (.const (.slice none 0 0)) (.tmp 34) 22 5 (.int .u8 0) 1 rfl Try.underlying22 info5 rfl (by decide) (by omega) (.slice none 0 0) ([] : List Int) l0 _ _ _ (fun k_ => some k_ ≠ (v122 : Value).ownBlock) (fun _ => False) rfl rfl ?aO ?aR (fun _ _ h => h) (fun _ h => h.elim) ?aF ?aB ?aS ?aL ?_; (case aR => repeat (first | exact (Kd.C_below HR0.out HB.out) | (with_reducible refine Kd.C_alloc ?_ _) | (with_reducible refine Kd.C_drewN ?_ _) | (with_reducible refine Kd.C_drew ?_))); (case aB => exact (by repeat (first | (with_reducible first | exact HB.out | apply below_alloc | apply pw_below_drewN | apply below_drew1) | exact HB.out))); (case aF => exact (fun k_ hk => Kd.fresh' (Kd.R_lt (by (with_reducible repeat (first | apply Kd.R_alloc | apply Kd.R_drewN | apply Kd.R_drew)); exact HO123.out)) k_ hk)); (case aO => exact ((Kd.R_nil _ _ _ _ (fun k_ => some k_ ≠ (v122 : Value).ownBlock)))); (case aS => exact (below_size (by repeat (first | (with_reducible first | exact HB.out | apply below_alloc | apply pw_below_drewN | apply below_drew1) | exact HB.out)))); (case aL => have := LMc12.out; omega); intro v125 w16 ho hb hg hat; rw [← Ny124.out] at ho; have n0_ := Aside0.mk (Kd.R_after (Kd.R_apart_nil (by (with_reducible repeat (first | apply Kd.R_alloc | apply Kd.R_drewN | apply Kd.R_drew)); exact HO123.out)) hg hat); have n1_ := Aside0.mk (hb); have n2_ := Aside0.mk (ho); clear HO123; clear HB; have HO123 := n0_; have HB := n1_; have HO126 := n2_; clear n0_ n1_ n2_; clear ho hb hg hat; obtain ⟨Ao18, co18, eo18⟩ := Kd.R_slice HO123.out; subst eo18) | ((with_reducible refine gate_builtin (b := .append) (xs := #[.tmp 35, .tmp 36]) rfl ?_); (try (refine gate_guard (by rfl) ?_; dsimp only)); at_builtin; refine Kd.R_append_rows (Kd.int .u8) (w0 := w) w.heap.size rfl (.tmp 35) (.tmp 36) 22 5 (.int .u8 0) 1 rfl Try.underlying22 info5 rfl (by decide) (by omega) v125 y124 t120 _ _ _ (fun k_ => some k_ ≠ (.slice Ao18 t120.length co18 : Value).ownBlock) (fun _ => False) rfl rfl ?aO ?aR (fun _ _ h => h) (fun _ h => h.elim) ?aF ?aB ?aS ?aL ?_; (case aR => repeat (first | exact (Kd.R_reads' HO123.out).2.2 | (with_reducible refine Kd.C_alloc ?_ _) | (with_reducible refine Kd.C_drewN ?_ _) | (with_reducible refine Kd.C_drew ?_))); (case aB => exact (by repeat (first | (with_reducible first | exact HB.out | apply below_alloc | apply pw_below_drewN | apply below_drew1) | exact HB.out))); (case aF => exact (fun k_ hk => Kd.fresh' (Kd.R_lt (by (with_reducible repeat (first | apply Kd.R_alloc | apply Kd.R_drewN | apply Kd.R_drew)); exact HO123.out)) k_ hk)); (case aO => exact (by (with_reducible repeat (first | apply Kd.R_alloc | apply Kd.R_drewN | apply Kd.R_drew)); exact HO126.out)); (case aS => exact (below_size (by repeat (first | (with_reducible first | exact HB.out | apply below_alloc | apply pw_below_drewN | apply below_drew1) | exact HB.out)))); (case aL => have := LMc13.out; omega); intro v128 w17 ho hb hg hat; rw [← Ny127.out] at ho; have n0_ := Aside0.mk (Kd.R_after (ok := (fun _ => True)) (by (with_reducible repeat (first | apply Kd.R_alloc | apply Kd.R_drewN | apply Kd.R_drew)); exact HO123.out) hg hat); have n1_ := Aside0.mk (hb); have n2_ := Aside0.mk (ho); clear HO123; clear HB; clear HO126; have HO123 := n0_; have HB := n1_; have HO129 := n2_; clear n0_ n1_ n2_; clear ho hb hg hat))
            (try simp only [Act.put, List.setIfInBounds_toArray, List.set_cons_zero, List.set_cons_succ])
            go_cut [44] (fun v44 wc => ∃ (kq : Nat) (x44_13 : Bool), v44 = .bool x44_13 ∧ Aside0 (wayfinderlaw02_OctetsSum.j1 kq l0 a1 a2 y127 x44_13 = some r) ∧ Aside0 (kq ≤ kj4) ∧ Aside0 (Kd.R (Kd.int .u8) 5 wc w.heap.size (fun _ => True) v128 y127) ∧ Aside0 (Below w.heap.size w wc))
            case first =>
              have H := HC14.out
              clear HC14
              by_cases c19 : t121 = 0
              · rw [if_pos c19] at H
                have c19b0 : (t121 == 0) = true := beq_iff_eq.mpr c19
                have c19b1 : (t121 != 0) = false := bne_eq_false_iff_eq.mpr c19
                clear c19
                (first | rw [c19b0] | (simp only [i64_w, i32_w]; rw [c19b0]) | skip)
                replace H := Option.bind_eq_some_iff.mp H
                obtain ⟨t130, A200, H⟩ := H
                replace H : (wayfinderlaw02_OctetsSum.j1 kj4 l0 a1 a2 y127 (t130 != 0)) = some r := H
                have A20 := Aside0.mk A200
                clear A200
                have H' := Aside0.mk H
                clear H
                obtain ⟨Ao21, co21, eo21⟩ := Kd.R_slice HO129.out
                subst eo21
                go_wp2_with (first | (go_at_call 12; (with_reducible refine (octets_Sum.calls _ _ y127 t130 _ ?side1 ?side2 A20.out).mono ?_); (case side1 => repeat (first | exact (Kd.R_reads' HO129.out).2.2 | (with_reducible refine Kd.C_alloc ?_ _) | (with_reducible refine Kd.C_drewN ?_ _) | (with_reducible refine Kd.C_drew ?_))); (case side2 => exact (Kd.R_reads' HO129.out).2.1); rintro e w' ⟨rfl, ⟨nd, rfl⟩⟩))
                go_meet
                case rel => exact ⟨_, ((t130 != 0)), (by first | rfl | (simp; done) | (simp [*]; done)), H', ⟨by have := HJ4.out; first | omega | exact Nat.le_refl _⟩, ⟨by (with_reducible repeat (first | apply Kd.R_alloc | apply Kd.R_drewN | apply Kd.R_drew)); exact Kd.R_mono HO129.out (fun _ hk => trivial)⟩, ⟨by repeat (first | (with_reducible first | exact HB.out | apply below_alloc | apply pw_below_drewN | apply below_drew1) | exact HB.out)⟩⟩
              · rw [if_neg c19] at H
                have c19b0 : (t121 == 0) = false := beq_eq_false_iff_ne.mpr c19
                have c19b1 : (t121 != 0) = true := bne_iff_ne.mpr c19
                (first | rw [c19b0] | (simp only [i64_w, i32_w]; rw [c19b0]) | skip)
                have H' := Aside0.mk H
                clear H
                go_wp2
                go_meet
                case rel => exact ⟨_, (true), (by first | rfl | (simp; done) | (simp [*]; done)), H', ⟨by have := HJ4.out; first | omega | exact Nat.le_refl _⟩, ⟨by (with_reducible repeat (first | apply Kd.R_alloc | apply Kd.R_drewN | apply Kd.R_drew)); exact Kd.R_mono HO129.out (fun _ hk => trivial)⟩, ⟨by repeat (first | (with_reducible first | exact HB.out | apply below_alloc | apply pw_below_drewN | apply below_drew1) | exact HB.out)⟩⟩
            case rest =>
              clear HC14
              try clear c1
              try clear p2
              try clear c3
              try clear c7
              try clear c8
              try clear c8b0
              try clear c8b1
              try clear c9
              try clear c11
              try clear c12
              try clear c13
              try clear c19
              try clear c19b0
              try clear c19b1
              try clear p2
              obtain ⟨kq, x44_13, rfl, HA, HJ13, HO_11, HB⟩ := hcut
              cases kq with
              | zero => exact absurd HA.out (by simp [wayfinderlaw02_OctetsSum.j1])
              | succ kj13 =>
                have H := HA.out
                clear HA
                simp only [wayfinderlaw02_OctetsSum.j1] at H
                by_cases c22 : x44_13 = true
                · subst c22
                  have H1 : (some false) = some r := by rw [if_pos rfl] at H; exact H
                  clear H
                  have H := H1
                  clear H1
                  obtain rfl := Option.some.inj H
                  go_wp2
                  go_ret
                  exact ⟨by first | rfl | (simp [errW_none, errW_some] <;> rfl) | (simp [*, errW_none, errW_some] <;> rfl), by repeat (first | (with_reducible first | exact HB.out | apply below_alloc | apply pw_below_drewN | apply below_drew1) | exact HB.out)⟩
                · replace c22 := Bool.eq_false_iff.mpr c22
                  subst c22
                  have H1 : (if a1 < 0 then (some true) else (if a1 ≥ (l0.length : Int) then (some true) else (if a2 = 0 then (some true) else (if 0 ≤ a1 then (if a1 < (y127.length : Int) then ((octets_Sum.f (y127.set (a1 : Int).toNat (Go.bits .xor .u8 (rd y127 a1) a2))).bind fun t133 => (some (t133 != 0))) else (none)) else (none))))) = some r := by rw [if_neg (show ¬ (false = true) by decide)] at H; exact H
                  clear H
                  have H := H1
                  clear H1
                  by_cases c23 : a1 < 0
                  · rw [if_pos c23] at H
                    have c23b0 : decide (a1 < 0) = true := decide_eq_true c23
                    clear c23
                    obtain rfl := Option.some.inj H
                    go_wp2
                    go_ret
                    exact ⟨by first | rfl | (simp [errW_none, errW_some] <;> rfl) | (simp [*, errW_none, errW_some] <;> rfl), by repeat (first | (with_reducible first | exact HB.out | apply below_alloc | apply pw_below_drewN | apply below_drew1) | exact HB.out)⟩
                  · rw [if_neg c23] at H
                    have c23b0 : decide (a1 < 0) = false := decide_eq_false c23
                    clear c23
                    by_cases c24 : a1 ≥ (l0.length : Int)
                    · rw [if_pos c24] at H
                      have c24b0 : decide ((l0.length : Int) ≤ a1) = true := decide_eq_true c24
                      clear c24
                      obtain rfl := Option.some.inj H
                      go_wp2
                      go_ret
                      exact ⟨by first | rfl | (simp [errW_none, errW_some] <;> rfl) | (simp [*, errW_none, errW_some] <;> rfl), by repeat (first | (with_reducible first | exact HB.out | apply below_alloc | apply pw_below_drewN | apply below_drew1) | exact HB.out)⟩
                    · rw [if_neg c24] at H
                      have c24b0 : decide ((l0.length : Int) ≤ a1) = false := decide_eq_false c24
                      clear c24
                      by_cases c25 : a2 = 0
                      · rw [if_pos c25] at H
                        have c25b0 : (a2 == 0) = true := beq_iff_eq.mpr c25
                        have c25b1 : (a2 != 0) = false := bne_eq_false_iff_eq.mpr c25
                        clear c25
                        obtain rfl := Option.some.inj H
                        go_wp2
                        go_ret
                        exact ⟨by first | rfl | (simp [errW_none, errW_some] <;> rfl) | (simp [*, errW_none, errW_some] <;> rfl), by repeat (first | (with_reducible first | exact HB.out | apply below_alloc | apply pw_below_drewN | apply below_drew1) | exact HB.out)⟩
                      · rw [if_neg c25] at H
                        have c25b0 : (a2 == 0) = false := beq_eq_false_iff_ne.mpr c25
                        have c25b1 : (a2 != 0) = true := bne_iff_ne.mpr c25
                        by_cases c26 : 0 ≤ a1
                        · rw [if_pos c26] at H
                          have c26b0 : decide (0 ≤ a1) = true := decide_eq_true c26
                          clear c26
                          by_cases c27 : a1 < (y127.length : Int)
                          · rw [if_pos c27] at H
                            have c27b0 : decide (a1 < (y127.length : Int)) = true := decide_eq_true c27
                            clear c27
                            obtain ⟨y132, hy132⟩ : ∃ y_ : List Int, y_ = (y127.set (a1 : Int).toNat (Go.bits .xor .u8 (rd y127 a1) a2)) := ⟨_, rfl⟩
                            replace H : ((octets_Sum.f y132).bind fun t133 => (some (t133 != 0))) = some r := by first | (rw [hy132]; with_reducible exact H) | (have H2_ := (Option.bind_some _ _).symm.trans H; rw [hy132]; with_reducible exact H2_) | (have H2_ := (Option.bind_some _ _).symm.trans H; with_reducible exact H2_) | with_reducible exact H | (rw [hy132]; exact H) | exact H
                            have Ny132 := Aside0.mk hy132
                            clear hy132
                            replace H := Option.bind_eq_some_iff.mp H
                            obtain ⟨t133, A290, H⟩ := H
                            replace H : (some (t133 != 0)) = some r := H
                            have A29 := Aside0.mk A290
                            clear A290
                            obtain rfl := Option.some.inj H
                            obtain ⟨Ao30, co30, eo30⟩ := Kd.R_slice HO_11.out
                            subst eo30
                            have p131 : 0 ≤ (a1 : Int) := of_decide_eq_true (by first | (with_reducible assumption) | assumption)
                            have q131 : a1 < (y127.length : Int) := of_decide_eq_true (by first | (with_reducible assumption) | assumption)
                            obtain ⟨ad131, e131, hx131_0⟩ := Kd.at_int (Kd.R_reads' HO_11.out).2.2 a1 p131 q131
                            cases e131
                            replace p131 := eq_true p131
                            replace q131 := eq_true q131
                            have p28 : 0 ≤ (a1 : Int) := of_decide_eq_true (by first | (with_reducible assumption) | assumption)
                            have q28 : (a1 : Int) < ((y127.length : Int) : Int) := of_decide_eq_true (by first | (with_reducible assumption) | assumption)
                            obtain ⟨go28, co28, eo28, gb28, gl28, cl28, HG28⟩ := Kd.R_form HO_11.out (by omega)
                            (first | cases eo28 | (injection eo28 with ea_ en_ ec_; (first | subst ea_ | (injection ea_ with ea_; subst ea_)); subst ec_; clear en_))
                            have GB28 := Aside0.mk gb28
                            have GG28 := Aside0.mk HG28
                            clear gb28 gl28 HG28
                            (first | simp only [add_plain] at hx131_0 | skip)
                            obtain ⟨hx28_0, hf28_0⟩ := Kd.R_celln 0 HO_11.out (a1 : Int) p28 q28
                            replace p28 := eq_true p28
                            replace q28 := eq_true q28
                            have HP31 := Kd.R_putg HO_11.out (a1 : Int) (Go.bits .xor .u8 (rd y127 a1) a2)
                            go_wp2_with (first | ((with_reducible refine gate_store (t := 5) (p := 65) rfl ?_); refine store_event (t := 5) (p := 65) (v := ?vo_w32) (w1 := (wc.setCell ⟨go28, (a1 : Int).toNat, none⟩ (.int .u8 (Go.bits .xor .u8 (rd y127 a1) a2)))) ?hg ?ho ?hn ?hr ?_; (case ho => rfl); (case hg => rfl); (case hn => rfl); (case hr => first | (go_simp; done) | (go_simp; rfl)); intro w32 hw; have hg : wc.grownBy w32 (some go28) := (by rw [hw]; exact HP31.2); have hp_ : Kd.R (Kd.int .u8) 5 w32 w.heap.size (fun _ => True) (.slice (some ⟨go28, 0, none⟩) y127.length co30) y132 := (by rw [hw, Ny132.out]; exact HP31.1); clear HP31; have n0_ := Aside0.mk (hp_); have n1_ := Aside0.mk ((by rw [hw]; exact below_set (HB.out) GB28.out : Below w.heap.size w w32)); clear HO_11; clear HB; have HO_11 := n0_; have HB := n1_; clear n0_ n1_; clear hg hw hp_) | ((with_reducible refine gate_callee (f := 12) rfl ?_); refine goesL_ (some 67) rfl rfl Try.func12 (by kernel_rfl) rfl #[.slice (some ⟨go28, 0, none⟩) y132.length co30] rfl (by (try simp only [List.map_toArray, List.map_cons, List.map_nil]); first | done | (rw [show y132.length = y127.length from (Kd.R_reads' HO_11.out).1.symm] <;> rfl) | rfl | (simp only [List.length_drop, List.length_take]; rfl)) ?_; (with_reducible refine (octets_Sum.calls _ _ y132 t133 _ ?side1 ?side2 A29.out).mono ?_); (case side1 => repeat (first | exact (Kd.R_reads' HO_11.out).2.2 | (with_reducible refine Kd.C_alloc ?_ _) | (with_reducible refine Kd.C_drewN ?_ _) | (with_reducible refine Kd.C_drew ?_))); (case side2 => rw [show y132.length = y127.length from (Kd.R_reads' HO_11.out).1.symm]; exact (Kd.R_reads' HO_11.out).2.1); rintro e w' ⟨rfl, ⟨nd, rfl⟩⟩; refine ⟨_, rfl, ?_⟩))
                            go_ret
                            exact ⟨by first | rfl | (simp [errW_none, errW_some] <;> rfl) | (simp [*, errW_none, errW_some] <;> rfl), by repeat (first | (with_reducible first | exact HB.out | apply below_alloc | apply pw_below_drewN | apply below_drew1) | exact HB.out)⟩
                          · rw [if_neg c27] at H
                            exact absurd H (by simp)
                        · rw [if_neg c26] at H
                          exact absurd H (by simp)
          · rw [if_neg c13] at H
            exact absurd H (by simp)
        · rw [if_neg c12] at H
          exact absurd H (by simp)

/-- THE ONE PURE STATEMENT of wayfinderlaw02_OctetsSum: yours. -/
def wayfinderlaw02_OctetsSum.Pure : Prop := ∀ (l0 : List Int) (a1 : Int) (a2 : Int), l0.length ≤ maxLen → l0.length * 1 ≤ 140737488351232 → (∀ x ∈ l0, (Lit.int .u8 x).wf = true) → (Lit.int .i64 a1).wf = true → (Lit.int .u8 a2).wf = true → ∃ k, wayfinderlaw02_OctetsSum.f k l0 a1 a2 = some true
theorem wayfinderlaw02_OctetsSum.walk (P : wayfinderlaw02_OctetsSum.Pure) (a0 : Option Addr) (len0 cap0 : Nat) (z0 : List Int) (a1 : Int) (a2 : Int) (w : World) (w0 : (a0 = none ∧ len0 = 0 ∧ cap0 = 0 ∧ z0 = []) ∨ ∃ x, a0 = some x ∧ len0 ≤ cap0 ∧ cap0 ≤ maxLen ∧ z0.length = cap0 ∧ (∀ i, i < z0.length → w.cell? (x.add i) = some (.int .u8 (z0.getD i 0))) ∧ ∀ n ∈ z0, (Lit.int .u8 n).wf = true) (y0 : len0 * 1 ≤ 140737488351232) (w1 : (Lit.int .i64 a1).wf = true) (w2 : (Lit.int .u8 a2).wf = true) :
    Calls Try.prog 3 #[.slice a0 len0 cap0, .int .i64 a1, .int .u8 a2] w fun e w' => e = .returned (.bool true) ∧ Below w.heap.size w w' := by
  obtain ⟨l0, rfl, hr0, hm0, hw0, hc0⟩ := ReadsInt.ofRowC w0
  obtain ⟨k, h⟩ := P l0 a1 a2 hm0 y0 hw0 w1 w2
  refine (wayfinderlaw02_OctetsSum.calls k _ _ l0 a1 a2 true w (Kd.C_of_reads (d := (0 : Int)) (h1 := fun _ => rfl) hr0) hc0 h).mono ?_
  rintro e w' ⟨rfl, hd⟩
  exact ⟨rfl, hd⟩

/-! ### wayfinderlaw02_OctetsOrder: function 4 -/
def wayfinderlaw02_OctetsOrder.f (k : Nat) (a0 : Int) (a1 : Int) (a2 : Int) : Option (Bool) := (wayfinderlaw02_awake.f k).bind fun t134 => ((octets_Put.f k a0 a2).bind fun bt135 => ((octets_Put.f k a1 a2).bind fun bt139 => (if t134 = true then (if bt135.2 = 0 then (if bt139.2 = 0 then (if (bt135.1.length : Int) = a2 then (if (bt139.1.length : Int) = a2 then (if ((Op.bytesLess ((strOfNums bt135.1).toList) ((strOfNums bt139.1).toList)) == (decide (a0 < a1))) = true then (some (((strOfNums bt135.1).toList == (strOfNums bt139.1).toList) == (a0 == a1))) else (some false)) else (some false)) else (some false)) else (some t134)) else (some t134)) else (some t134))))
theorem wayfinderlaw02_OctetsOrder.mono : ∀ a0 a1 a2 k, LeO (wayfinderlaw02_OctetsOrder.f k a0 a1 a2) (wayfinderlaw02_OctetsOrder.f (k + 1) a0 a1 a2) := by
  intro a0 a1 a2 k
  unfold wayfinderlaw02_OctetsOrder.f
  repeat' first
      | (with_reducible exact octets_Put.mono _ _ _)
      | (with_reducible exact wayfinderlaw02_awake.mono _)
      | (with_reducible exact LeO.refl _)
      | (with_reducible exact LeO.none _)
      | (with_reducible refine LeO.ite ?_ ?_)
      | (with_reducible refine LeO.bind ?_ (fun _ => ?_))
      | exact octets_Put.mono _ _ _
      | exact wayfinderlaw02_awake.mono _
      | exact LeO.none _
      | refine LeO.ite ?_ ?_
      | refine LeO.bind ?_ (fun _ => ?_)
set_option maxHeartbeats 8000000 in
set_option maxRecDepth 100000 in
theorem wayfinderlaw02_OctetsOrder.calls (k : Nat) (a0 : Int) (a1 : Int) (a2 : Int) (r : Bool) (w : World) (h : wayfinderlaw02_OctetsOrder.f k a0 a1 a2 = some r) :
    Calls Try.prog 4 #[.int .i64 a0, .int .i64 a1, .int .i64 a2] w fun e w' => e = .returned (.bool r) ∧ Below w.heap.size w w' := by
  have HB := Aside0.mk (Below.refl w.heap.size w)
  have H : ((wayfinderlaw02_awake.f k).bind fun t134 => ((octets_Put.f k a0 a2).bind fun bt135 => ((octets_Put.f k a1 a2).bind fun bt139 => (if t134 = true then (if bt135.2 = 0 then (if bt139.2 = 0 then (if (bt135.1.length : Int) = a2 then (if (bt139.1.length : Int) = a2 then (if ((Op.bytesLess ((strOfNums bt135.1).toList) ((strOfNums bt139.1).toList)) == (decide (a0 < a1))) = true then (some (((strOfNums bt135.1).toList == (strOfNums bt139.1).toList) == (a0 == a1))) else (some false)) else (some false)) else (some false)) else (some t134)) else (some t134)) else (some t134))))) = some r := h
  clear h
  replace H := Option.bind_eq_some_iff.mp H
  obtain ⟨t134, A40, H⟩ := H
  replace H : ((octets_Put.f k a0 a2).bind fun bt135 => ((octets_Put.f k a1 a2).bind fun bt139 => (if t134 = true then (if bt135.2 = 0 then (if bt139.2 = 0 then (if (bt135.1.length : Int) = a2 then (if (bt139.1.length : Int) = a2 then (if ((Op.bytesLess ((strOfNums bt135.1).toList) ((strOfNums bt139.1).toList)) == (decide (a0 < a1))) = true then (some (((strOfNums bt135.1).toList == (strOfNums bt139.1).toList) == (a0 == a1))) else (some false)) else (some false)) else (some false)) else (some t134)) else (some t134)) else (some t134)))) = some r := H
  have A4 := Aside0.mk A40
  clear A40
  replace H := Option.bind_eq_some_iff.mp H
  obtain ⟨⟨t135, t136⟩, A50, H⟩ := H
  replace H : ((octets_Put.f k a1 a2).bind fun bt139 => (if t134 = true then (if t136 = 0 then (if bt139.2 = 0 then (if (t135.length : Int) = a2 then (if (bt139.1.length : Int) = a2 then (if ((Op.bytesLess ((strOfNums t135).toList) ((strOfNums bt139.1).toList)) == (decide (a0 < a1))) = true then (some (((strOfNums t135).toList == (strOfNums bt139.1).toList) == (a0 == a1))) else (some false)) else (some false)) else (some false)) else (some t134)) else (some t134)) else (some t134))) = some r := H
  have A5 := Aside0.mk A50
  clear A50
  replace H := Option.bind_eq_some_iff.mp H
  obtain ⟨⟨t139, t140⟩, A60, H⟩ := H
  replace H : (if t134 = true then (if t136 = 0 then (if t140 = 0 then (if (t135.length : Int) = a2 then (if (t139.length : Int) = a2 then (if ((Op.bytesLess ((strOfNums t135).toList) ((strOfNums t139).toList)) == (decide (a0 < a1))) = true then (some (((strOfNums t135).toList == (strOfNums t139).toList) == (a0 == a1))) else (some false)) else (some false)) else (some false)) else (some t134)) else (some t134)) else (some t134)) = some r := H
  have A6 := Aside0.mk A60
  clear A60
  by_cases c7 : t134 = true
  · subst c7
    have H1 : (if t136 = 0 then (if t140 = 0 then (if (t135.length : Int) = a2 then (if (t139.length : Int) = a2 then (if ((Op.bytesLess ((strOfNums t135).toList) ((strOfNums t139).toList)) == (decide (a0 < a1))) = true then (some (((strOfNums t135).toList == (strOfNums t139).toList) == (a0 == a1))) else (some false)) else (some false)) else (some false)) else (some true)) else (some true)) = some r := by rw [if_pos rfl] at H; exact H
    clear H
    have H := H1
    clear H1
    by_cases c8 : t136 = 0
    · rw [if_pos c8] at H
      have c8b0 : (t136 == 0) = true := beq_iff_eq.mpr c8
      have c8b1 : (t136 != 0) = false := bne_eq_false_iff_eq.mpr c8
      clear c8
      by_cases c9 : t140 = 0
      · rw [if_pos c9] at H
        have c9b0 : (t140 == 0) = true := beq_iff_eq.mpr c9
        have c9b1 : (t140 != 0) = false := bne_eq_false_iff_eq.mpr c9
        clear c9
        by_cases c10 : (t135.length : Int) = a2
        · rw [if_pos c10] at H
          have c10b0 : ((t135.length : Int) == a2) = true := beq_iff_eq.mpr c10
          have c10b1 : ((t135.length : Int) != a2) = false := bne_eq_false_iff_eq.mpr c10
          clear c10
          by_cases c11 : (t139.length : Int) = a2
          · rw [if_pos c11] at H
            have c11b0 : ((t139.length : Int) == a2) = true := beq_iff_eq.mpr c11
            have c11b1 : ((t139.length : Int) != a2) = false := bne_eq_false_iff_eq.mpr c11
            clear c11
            by_cases c12 : ((Op.bytesLess ((strOfNums t135).toList) ((strOfNums t139).toList)) == (decide (a0 < a1))) = true
            · rw [if_pos c12] at H
              have c12b0 : ((Op.bytesLess ((strOfNums t135).toList) ((strOfNums t139).toList)) == (decide (a0 < a1))) = true := c12
              (try (have c12b1 : decide ((Op.bytesLess ((strOfNums t135).toList) ((strOfNums t139).toList)) = (decide (a0 < a1))) = true := by simpa using c12))
              (try (have c12b2 : ((Op.bytesLess ((strOfNums t135).toList) ((strOfNums t139).toList)) == (decide (a0 < a1))) = true := by simpa using c12))
              clear c12
              obtain rfl := Option.some.inj H
              go_enter Try.func4, Try.ntmps4
              go_wp2_with (first | ((with_reducible refine gate_callee (f := 11) rfl ?_); refine goesL_ (some 12) rfl rfl Try.func11 (by kernel_rfl) rfl #[] rfl (by (try simp only [List.map_toArray, List.map_cons, List.map_nil]); first | done | rfl | (simp only [List.length_drop, List.length_take]; rfl)) ?_; (with_reducible refine (wayfinderlaw02_awake.calls k  true _ A4.out).mono ?_); rintro e w13 ⟨rfl, hb⟩; refine ⟨_, rfl, ?_⟩; have n0_ := Aside0.mk (below_step (by repeat (first | (with_reducible first | exact HB.out | apply below_alloc | apply pw_below_drewN | apply below_drew1) | exact HB.out)) hb); clear HB; have HB := n0_; clear n0_; (try clear hb); (try clear hb2); (try clear hk); (try clear hi)) | ((with_reducible refine gate_callee (f := 13) rfl ?_); refine goesL_ (some 16) rfl rfl Try.func13 (by kernel_rfl) rfl #[.int .i64 a0, .int .i64 a2] rfl (by (try simp only [List.map_toArray, List.map_cons, List.map_nil]); first | done | rfl | (simp only [List.length_drop, List.length_take]; rfl)) ?_; (with_reducible refine (octets_Put.calls k a0 a2 t135 t136 _ A5.out).mono ?_); rintro e w14 ⟨v137, rfl, ho0, hb⟩; refine ⟨_, rfl, ?_⟩; have n0_ := Aside0.mk (Kd.R_lower ho0 (below_size (by repeat (first | (with_reducible first | exact HB.out | apply below_alloc | apply pw_below_drewN | apply below_drew1) | exact HB.out)))); have n1_ := Aside0.mk (below_step (by repeat (first | (with_reducible first | exact HB.out | apply below_alloc | apply pw_below_drewN | apply below_drew1) | exact HB.out)) hb); clear HB; have HO138 := n0_; have HB := n1_; clear n0_ n1_; (try clear hb); (try clear hb2); (try clear hk); (try clear hi); (try clear ho0)) | ((with_reducible refine gate_callee (f := 13) rfl ?_); refine goesL_ (some 22) rfl rfl Try.func13 (by kernel_rfl) rfl #[.int .i64 a1, .int .i64 a2] rfl (by (try simp only [List.map_toArray, List.map_cons, List.map_nil]); first | done | rfl | (simp only [List.length_drop, List.length_take]; rfl)) ?_; (with_reducible refine (octets_Put.calls k a1 a2 t139 t140 _ A6.out).mono ?_); rintro e w15 ⟨v141, rfl, ho0, hb⟩; refine ⟨_, rfl, ?_⟩; have n0_ := Aside0.mk (Kd.R_elder' (by (with_reducible repeat (first | apply Kd.R_alloc | apply Kd.R_drewN | apply Kd.R_drew)); exact HO138.out) (Kd.R_base ho0) hb); have n1_ := Aside0.mk (Kd.R_lower (Kd.R_new' ho0 (Kd.R_lt (by (with_reducible repeat (first | apply Kd.R_alloc | apply Kd.R_drewN | apply Kd.R_drew)); exact HO138.out))) (below_size (by repeat (first | (with_reducible first | exact HB.out | apply below_alloc | apply pw_below_drewN | apply below_drew1) | exact HB.out)))); have n2_ := Aside0.mk (below_step (by repeat (first | (with_reducible first | exact HB.out | apply below_alloc | apply pw_below_drewN | apply below_drew1) | exact HB.out)) hb); clear HO138; clear HB; have HO138 := n0_; have HO142 := n1_; have HB := n2_; clear n0_ n1_ n2_; (try clear hb); (try clear hb2); (try clear hk); (try clear hi); (try clear ho0); obtain ⟨Ao16, co16, eo16⟩ := Kd.R_slice HO138.out; subst eo16; obtain ⟨Ao17, co17, eo17⟩ := Kd.R_slice HO142.out; subst eo17; have hcv18 := own_string (P := Try.prog) Try.underlying22 Try.underlying5 Try.underlying9 (Kd.own_of_R HO138.out); have hcv19 := fun (n_ : Nat) => own_string (P := Try.prog) Try.underlying22 Try.underlying5 Try.underlying9 (Kd.own_of_R (Kd.R_drewN HO138.out n_)); have hcv20 := own_string (P := Try.prog) Try.underlying22 Try.underlying5 Try.underlying9 (Kd.own_of_R HO142.out); have hcv21 := fun (n_ : Nat) => own_string (P := Try.prog) Try.underlying22 Try.underlying5 Try.underlying9 (Kd.own_of_R (Kd.R_drewN HO142.out n_)); have hcv22 := own_string (P := Try.prog) Try.underlying22 Try.underlying5 Try.underlying9 (Kd.own_of_R HO138.out); have hcv23 := fun (n_ : Nat) => own_string (P := Try.prog) Try.underlying22 Try.underlying5 Try.underlying9 (Kd.own_of_R (Kd.R_drewN HO138.out n_)); have hcv24 := own_string (P := Try.prog) Try.underlying22 Try.underlying5 Try.underlying9 (Kd.own_of_R HO142.out); have hcv25 := fun (n_ : Nat) => own_string (P := Try.prog) Try.underlying22 Try.underlying5 Try.underlying9 (Kd.own_of_R (Kd.R_drewN HO142.out n_))))
              go_ret
              exact ⟨by first | rfl | (simp [errW_none, errW_some] <;> rfl) | (simp [*, errW_none, errW_some] <;> rfl), by repeat (first | (with_reducible first | exact HB.out | apply below_alloc | apply pw_below_drewN | apply below_drew1) | exact HB.out)⟩
            · rw [if_neg c12] at H
              have c12b0 : ((Op.bytesLess ((strOfNums t135).toList) ((strOfNums t139).toList)) == (decide (a0 < a1))) = false := by simpa using c12
              (try (have c12b1 : decide ((Op.bytesLess ((strOfNums t135).toList) ((strOfNums t139).toList)) = (decide (a0 < a1))) = false := by simpa using c12))
              (try (have c12b2 : ((Op.bytesLess ((strOfNums t135).toList) ((strOfNums t139).toList)) == (decide (a0 < a1))) = false := by simpa using c12))
              (try (have c12b3 : ¬ ((Op.bytesLess ((strOfNums t135).toList) ((strOfNums t139).toList)) = (decide (a0 < a1))) := by simpa using c12))
              clear c12
              obtain rfl := Option.some.inj H
              go_enter Try.func4, Try.ntmps4
              go_wp2_with (first | ((with_reducible refine gate_callee (f := 11) rfl ?_); refine goesL_ (some 12) rfl rfl Try.func11 (by kernel_rfl) rfl #[] rfl (by (try simp only [List.map_toArray, List.map_cons, List.map_nil]); first | done | rfl | (simp only [List.length_drop, List.length_take]; rfl)) ?_; (with_reducible refine (wayfinderlaw02_awake.calls k  true _ A4.out).mono ?_); rintro e w26 ⟨rfl, hb⟩; refine ⟨_, rfl, ?_⟩; have n0_ := Aside0.mk (below_step (by repeat (first | (with_reducible first | exact HB.out | apply below_alloc | apply pw_below_drewN | apply below_drew1) | exact HB.out)) hb); clear HB; have HB := n0_; clear n0_; (try clear hb); (try clear hb2); (try clear hk); (try clear hi)) | ((with_reducible refine gate_callee (f := 13) rfl ?_); refine goesL_ (some 16) rfl rfl Try.func13 (by kernel_rfl) rfl #[.int .i64 a0, .int .i64 a2] rfl (by (try simp only [List.map_toArray, List.map_cons, List.map_nil]); first | done | rfl | (simp only [List.length_drop, List.length_take]; rfl)) ?_; (with_reducible refine (octets_Put.calls k a0 a2 t135 t136 _ A5.out).mono ?_); rintro e w27 ⟨v137, rfl, ho0, hb⟩; refine ⟨_, rfl, ?_⟩; have n0_ := Aside0.mk (Kd.R_lower ho0 (below_size (by repeat (first | (with_reducible first | exact HB.out | apply below_alloc | apply pw_below_drewN | apply below_drew1) | exact HB.out)))); have n1_ := Aside0.mk (below_step (by repeat (first | (with_reducible first | exact HB.out | apply below_alloc | apply pw_below_drewN | apply below_drew1) | exact HB.out)) hb); clear HB; have HO138 := n0_; have HB := n1_; clear n0_ n1_; (try clear hb); (try clear hb2); (try clear hk); (try clear hi); (try clear ho0)) | ((with_reducible refine gate_callee (f := 13) rfl ?_); refine goesL_ (some 22) rfl rfl Try.func13 (by kernel_rfl) rfl #[.int .i64 a1, .int .i64 a2] rfl (by (try simp only [List.map_toArray, List.map_cons, List.map_nil]); first | done | rfl | (simp only [List.length_drop, List.length_take]; rfl)) ?_; (with_reducible refine (octets_Put.calls k a1 a2 t139 t140 _ A6.out).mono ?_); rintro e w28 ⟨v141, rfl, ho0, hb⟩; refine ⟨_, rfl, ?_⟩; have n0_ := Aside0.mk (Kd.R_elder' (by (with_reducible repeat (first | apply Kd.R_alloc | apply Kd.R_drewN | apply Kd.R_drew)); exact HO138.out) (Kd.R_base ho0) hb); have n1_ := Aside0.mk (Kd.R_lower (Kd.R_new' ho0 (Kd.R_lt (by (with_reducible repeat (first | apply Kd.R_alloc | apply Kd.R_drewN | apply Kd.R_drew)); exact HO138.out))) (below_size (by repeat (first | (with_reducible first | exact HB.out | apply below_alloc | apply pw_below_drewN | apply below_drew1) | exact HB.out)))); have n2_ := Aside0.mk (below_step (by repeat (first | (with_reducible first | exact HB.out | apply below_alloc | apply pw_below_drewN | apply below_drew1) | exact HB.out)) hb); clear HO138; clear HB; have HO138 := n0_; have HO142 := n1_; have HB := n2_; clear n0_ n1_ n2_; (try clear hb); (try clear hb2); (try clear hk); (try clear hi); (try clear ho0); obtain ⟨Ao29, co29, eo29⟩ := Kd.R_slice HO138.out; subst eo29; obtain ⟨Ao30, co30, eo30⟩ := Kd.R_slice HO142.out; subst eo30; have hcv31 := own_string (P := Try.prog) Try.underlying22 Try.underlying5 Try.underlying9 (Kd.own_of_R HO138.out); have hcv32 := fun (n_ : Nat) => own_string (P := Try.prog) Try.underlying22 Try.underlying5 Try.underlying9 (Kd.own_of_R (Kd.R_drewN HO138.out n_)); have hcv33 := own_string (P := Try.prog) Try.underlying22 Try.underlying5 Try.underlying9 (Kd.own_of_R HO142.out); have hcv34 := fun (n_ : Nat) => own_string (P := Try.prog) Try.underlying22 Try.underlying5 Try.underlying9 (Kd.own_of_R (Kd.R_drewN HO142.out n_))))
              go_ret
              exact ⟨by first | rfl | (simp [errW_none, errW_some] <;> rfl) | (simp [*, errW_none, errW_some] <;> rfl), by repeat (first | (with_reducible first | exact HB.out | apply below_alloc | apply pw_below_drewN | apply below_drew1) | exact HB.out)⟩
          · rw [if_neg c11] at H
            have c11b0 : ((t139.length : Int) == a2) = false := beq_eq_false_iff_ne.mpr c11
            have c11b1 : ((t139.length : Int) != a2) = true := bne_iff_ne.mpr c11
            obtain rfl := Option.some.inj H
            go_enter Try.func4, Try.ntmps4
            go_wp2_with (first | ((with_reducible refine gate_callee (f := 11) rfl ?_); refine goesL_ (some 12) rfl rfl Try.func11 (by kernel_rfl) rfl #[] rfl (by (try simp only [List.map_toArray, List.map_cons, List.map_nil]); first | done | rfl | (simp only [List.length_drop, List.length_take]; rfl)) ?_; (with_reducible refine (wayfinderlaw02_awake.calls k  true _ A4.out).mono ?_); rintro e w35 ⟨rfl, hb⟩; refine ⟨_, rfl, ?_⟩; have n0_ := Aside0.mk (below_step (by repeat (first | (with_reducible first | exact HB.out | apply below_alloc | apply pw_below_drewN | apply below_drew1) | exact HB.out)) hb); clear HB; have HB := n0_; clear n0_; (try clear hb); (try clear hb2); (try clear hk); (try clear hi)) | ((with_reducible refine gate_callee (f := 13) rfl ?_); refine goesL_ (some 16) rfl rfl Try.func13 (by kernel_rfl) rfl #[.int .i64 a0, .int .i64 a2] rfl (by (try simp only [List.map_toArray, List.map_cons, List.map_nil]); first | done | rfl | (simp only [List.length_drop, List.length_take]; rfl)) ?_; (with_reducible refine (octets_Put.calls k a0 a2 t135 t136 _ A5.out).mono ?_); rintro e w36 ⟨v137, rfl, ho0, hb⟩; refine ⟨_, rfl, ?_⟩; have n0_ := Aside0.mk (Kd.R_lower ho0 (below_size (by repeat (first | (with_reducible first | exact HB.out | apply below_alloc | apply pw_below_drewN | apply below_drew1) | exact HB.out)))); have n1_ := Aside0.mk (below_step (by repeat (first | (with_reducible first | exact HB.out | apply below_alloc | apply pw_below_drewN | apply below_drew1) | exact HB.out)) hb); clear HB; have HO138 := n0_; have HB := n1_; clear n0_ n1_; (try clear hb); (try clear hb2); (try clear hk); (try clear hi); (try clear ho0)) | ((with_reducible refine gate_callee (f := 13) rfl ?_); refine goesL_ (some 22) rfl rfl Try.func13 (by kernel_rfl) rfl #[.int .i64 a1, .int .i64 a2] rfl (by (try simp only [List.map_toArray, List.map_cons, List.map_nil]); first | done | rfl | (simp only [List.length_drop, List.length_take]; rfl)) ?_; (with_reducible refine (octets_Put.calls k a1 a2 t139 t140 _ A6.out).mono ?_); rintro e w37 ⟨v141, rfl, ho0, hb⟩; refine ⟨_, rfl, ?_⟩; have n0_ := Aside0.mk (Kd.R_elder' (by (with_reducible repeat (first | apply Kd.R_alloc | apply Kd.R_drewN | apply Kd.R_drew)); exact HO138.out) (Kd.R_base ho0) hb); have n1_ := Aside0.mk (Kd.R_lower (Kd.R_new' ho0 (Kd.R_lt (by (with_reducible repeat (first | apply Kd.R_alloc | apply Kd.R_drewN | apply Kd.R_drew)); exact HO138.out))) (below_size (by repeat (first | (with_reducible first | exact HB.out | apply below_alloc | apply pw_below_drewN | apply below_drew1) | exact HB.out)))); have n2_ := Aside0.mk (below_step (by repeat (first | (with_reducible first | exact HB.out | apply below_alloc | apply pw_below_drewN | apply below_drew1) | exact HB.out)) hb); clear HO138; clear HB; have HO138 := n0_; have HO142 := n1_; have HB := n2_; clear n0_ n1_ n2_; (try clear hb); (try clear hb2); (try clear hk); (try clear hi); (try clear ho0); obtain ⟨Ao38, co38, eo38⟩ := Kd.R_slice HO138.out; subst eo38; obtain ⟨Ao39, co39, eo39⟩ := Kd.R_slice HO142.out; subst eo39))
            go_ret
            exact ⟨by first | rfl | (simp [errW_none, errW_some] <;> rfl) | (simp [*, errW_none, errW_some] <;> rfl), by repeat (first | (with_reducible first | exact HB.out | apply below_alloc | apply pw_below_drewN | apply below_drew1) | exact HB.out)⟩
        · rw [if_neg c10] at H
          have c10b0 : ((t135.length : Int) == a2) = false := beq_eq_false_iff_ne.mpr c10
          have c10b1 : ((t135.length : Int) != a2) = true := bne_iff_ne.mpr c10
          obtain rfl := Option.some.inj H
          go_enter Try.func4, Try.ntmps4
          go_wp2_with (first | ((with_reducible refine gate_callee (f := 11) rfl ?_); refine goesL_ (some 12) rfl rfl Try.func11 (by kernel_rfl) rfl #[] rfl (by (try simp only [List.map_toArray, List.map_cons, List.map_nil]); first | done | rfl | (simp only [List.length_drop, List.length_take]; rfl)) ?_; (with_reducible refine (wayfinderlaw02_awake.calls k  true _ A4.out).mono ?_); rintro e w40 ⟨rfl, hb⟩; refine ⟨_, rfl, ?_⟩; have n0_ := Aside0.mk (below_step (by repeat (first | (with_reducible first | exact HB.out | apply below_alloc | apply pw_below_drewN | apply below_drew1) | exact HB.out)) hb); clear HB; have HB := n0_; clear n0_; (try clear hb); (try clear hb2); (try clear hk); (try clear hi)) | ((with_reducible refine gate_callee (f := 13) rfl ?_); refine goesL_ (some 16) rfl rfl Try.func13 (by kernel_rfl) rfl #[.int .i64 a0, .int .i64 a2] rfl (by (try simp only [List.map_toArray, List.map_cons, List.map_nil]); first | done | rfl | (simp only [List.length_drop, List.length_take]; rfl)) ?_; (with_reducible refine (octets_Put.calls k a0 a2 t135 t136 _ A5.out).mono ?_); rintro e w41 ⟨v137, rfl, ho0, hb⟩; refine ⟨_, rfl, ?_⟩; have n0_ := Aside0.mk (Kd.R_lower ho0 (below_size (by repeat (first | (with_reducible first | exact HB.out | apply below_alloc | apply pw_below_drewN | apply below_drew1) | exact HB.out)))); have n1_ := Aside0.mk (below_step (by repeat (first | (with_reducible first | exact HB.out | apply below_alloc | apply pw_below_drewN | apply below_drew1) | exact HB.out)) hb); clear HB; have HO138 := n0_; have HB := n1_; clear n0_ n1_; (try clear hb); (try clear hb2); (try clear hk); (try clear hi); (try clear ho0)) | ((with_reducible refine gate_callee (f := 13) rfl ?_); refine goesL_ (some 22) rfl rfl Try.func13 (by kernel_rfl) rfl #[.int .i64 a1, .int .i64 a2] rfl (by (try simp only [List.map_toArray, List.map_cons, List.map_nil]); first | done | rfl | (simp only [List.length_drop, List.length_take]; rfl)) ?_; (with_reducible refine (octets_Put.calls k a1 a2 t139 t140 _ A6.out).mono ?_); rintro e w42 ⟨v141, rfl, ho0, hb⟩; refine ⟨_, rfl, ?_⟩; have n0_ := Aside0.mk (Kd.R_elder' (by (with_reducible repeat (first | apply Kd.R_alloc | apply Kd.R_drewN | apply Kd.R_drew)); exact HO138.out) (Kd.R_base ho0) hb); have n1_ := Aside0.mk (Kd.R_lower (Kd.R_new' ho0 (Kd.R_lt (by (with_reducible repeat (first | apply Kd.R_alloc | apply Kd.R_drewN | apply Kd.R_drew)); exact HO138.out))) (below_size (by repeat (first | (with_reducible first | exact HB.out | apply below_alloc | apply pw_below_drewN | apply below_drew1) | exact HB.out)))); have n2_ := Aside0.mk (below_step (by repeat (first | (with_reducible first | exact HB.out | apply below_alloc | apply pw_below_drewN | apply below_drew1) | exact HB.out)) hb); clear HO138; clear HB; have HO138 := n0_; have HO142 := n1_; have HB := n2_; clear n0_ n1_ n2_; (try clear hb); (try clear hb2); (try clear hk); (try clear hi); (try clear ho0); obtain ⟨Ao43, co43, eo43⟩ := Kd.R_slice HO138.out; subst eo43))
          go_ret
          exact ⟨by first | rfl | (simp [errW_none, errW_some] <;> rfl) | (simp [*, errW_none, errW_some] <;> rfl), by repeat (first | (with_reducible first | exact HB.out | apply below_alloc | apply pw_below_drewN | apply below_drew1) | exact HB.out)⟩
      · rw [if_neg c9] at H
        have c9b0 : (t140 == 0) = false := beq_eq_false_iff_ne.mpr c9
        have c9b1 : (t140 != 0) = true := bne_iff_ne.mpr c9
        obtain rfl := Option.some.inj H
        go_enter Try.func4, Try.ntmps4
        go_wp2_with (first | ((with_reducible refine gate_callee (f := 11) rfl ?_); refine goesL_ (some 12) rfl rfl Try.func11 (by kernel_rfl) rfl #[] rfl (by (try simp only [List.map_toArray, List.map_cons, List.map_nil]); first | done | rfl | (simp only [List.length_drop, List.length_take]; rfl)) ?_; (with_reducible refine (wayfinderlaw02_awake.calls k  true _ A4.out).mono ?_); rintro e w44 ⟨rfl, hb⟩; refine ⟨_, rfl, ?_⟩; have n0_ := Aside0.mk (below_step (by repeat (first | (with_reducible first | exact HB.out | apply below_alloc | apply pw_below_drewN | apply below_drew1) | exact HB.out)) hb); clear HB; have HB := n0_; clear n0_; (try clear hb); (try clear hb2); (try clear hk); (try clear hi)) | ((with_reducible refine gate_callee (f := 13) rfl ?_); refine goesL_ (some 16) rfl rfl Try.func13 (by kernel_rfl) rfl #[.int .i64 a0, .int .i64 a2] rfl (by (try simp only [List.map_toArray, List.map_cons, List.map_nil]); first | done | rfl | (simp only [List.length_drop, List.length_take]; rfl)) ?_; (with_reducible refine (octets_Put.calls k a0 a2 t135 t136 _ A5.out).mono ?_); rintro e w45 ⟨v137, rfl, ho0, hb⟩; refine ⟨_, rfl, ?_⟩; have n0_ := Aside0.mk (Kd.R_lower ho0 (below_size (by repeat (first | (with_reducible first | exact HB.out | apply below_alloc | apply pw_below_drewN | apply below_drew1) | exact HB.out)))); have n1_ := Aside0.mk (below_step (by repeat (first | (with_reducible first | exact HB.out | apply below_alloc | apply pw_below_drewN | apply below_drew1) | exact HB.out)) hb); clear HB; have HO138 := n0_; have HB := n1_; clear n0_ n1_; (try clear hb); (try clear hb2); (try clear hk); (try clear hi); (try clear ho0)) | ((with_reducible refine gate_callee (f := 13) rfl ?_); refine goesL_ (some 22) rfl rfl Try.func13 (by kernel_rfl) rfl #[.int .i64 a1, .int .i64 a2] rfl (by (try simp only [List.map_toArray, List.map_cons, List.map_nil]); first | done | rfl | (simp only [List.length_drop, List.length_take]; rfl)) ?_; (with_reducible refine (octets_Put.calls k a1 a2 t139 t140 _ A6.out).mono ?_); rintro e w46 ⟨v141, rfl, ho0, hb⟩; refine ⟨_, rfl, ?_⟩; have n0_ := Aside0.mk (Kd.R_elder' (by (with_reducible repeat (first | apply Kd.R_alloc | apply Kd.R_drewN | apply Kd.R_drew)); exact HO138.out) (Kd.R_base ho0) hb); have n1_ := Aside0.mk (Kd.R_lower (Kd.R_new' ho0 (Kd.R_lt (by (with_reducible repeat (first | apply Kd.R_alloc | apply Kd.R_drewN | apply Kd.R_drew)); exact HO138.out))) (below_size (by repeat (first | (with_reducible first | exact HB.out | apply below_alloc | apply pw_below_drewN | apply below_drew1) | exact HB.out)))); have n2_ := Aside0.mk (below_step (by repeat (first | (with_reducible first | exact HB.out | apply below_alloc | apply pw_below_drewN | apply below_drew1) | exact HB.out)) hb); clear HO138; clear HB; have HO138 := n0_; have HO142 := n1_; have HB := n2_; clear n0_ n1_ n2_; (try clear hb); (try clear hb2); (try clear hk); (try clear hi); (try clear ho0)))
        go_ret
        exact ⟨by first | rfl | (simp [errW_none, errW_some] <;> rfl) | (simp [*, errW_none, errW_some] <;> rfl), by repeat (first | (with_reducible first | exact HB.out | apply below_alloc | apply pw_below_drewN | apply below_drew1) | exact HB.out)⟩
    · rw [if_neg c8] at H
      have c8b0 : (t136 == 0) = false := beq_eq_false_iff_ne.mpr c8
      have c8b1 : (t136 != 0) = true := bne_iff_ne.mpr c8
      obtain rfl := Option.some.inj H
      go_enter Try.func4, Try.ntmps4
      go_wp2_with (first | ((with_reducible refine gate_callee (f := 11) rfl ?_); refine goesL_ (some 12) rfl rfl Try.func11 (by kernel_rfl) rfl #[] rfl (by (try simp only [List.map_toArray, List.map_cons, List.map_nil]); first | done | rfl | (simp only [List.length_drop, List.length_take]; rfl)) ?_; (with_reducible refine (wayfinderlaw02_awake.calls k  true _ A4.out).mono ?_); rintro e w47 ⟨rfl, hb⟩; refine ⟨_, rfl, ?_⟩; have n0_ := Aside0.mk (below_step (by repeat (first | (with_reducible first | exact HB.out | apply below_alloc | apply pw_below_drewN | apply below_drew1) | exact HB.out)) hb); clear HB; have HB := n0_; clear n0_; (try clear hb); (try clear hb2); (try clear hk); (try clear hi)) | ((with_reducible refine gate_callee (f := 13) rfl ?_); refine goesL_ (some 16) rfl rfl Try.func13 (by kernel_rfl) rfl #[.int .i64 a0, .int .i64 a2] rfl (by (try simp only [List.map_toArray, List.map_cons, List.map_nil]); first | done | rfl | (simp only [List.length_drop, List.length_take]; rfl)) ?_; (with_reducible refine (octets_Put.calls k a0 a2 t135 t136 _ A5.out).mono ?_); rintro e w48 ⟨v137, rfl, ho0, hb⟩; refine ⟨_, rfl, ?_⟩; have n0_ := Aside0.mk (Kd.R_lower ho0 (below_size (by repeat (first | (with_reducible first | exact HB.out | apply below_alloc | apply pw_below_drewN | apply below_drew1) | exact HB.out)))); have n1_ := Aside0.mk (below_step (by repeat (first | (with_reducible first | exact HB.out | apply below_alloc | apply pw_below_drewN | apply below_drew1) | exact HB.out)) hb); clear HB; have HO138 := n0_; have HB := n1_; clear n0_ n1_; (try clear hb); (try clear hb2); (try clear hk); (try clear hi); (try clear ho0)) | ((with_reducible refine gate_callee (f := 13) rfl ?_); refine goesL_ (some 22) rfl rfl Try.func13 (by kernel_rfl) rfl #[.int .i64 a1, .int .i64 a2] rfl (by (try simp only [List.map_toArray, List.map_cons, List.map_nil]); first | done | rfl | (simp only [List.length_drop, List.length_take]; rfl)) ?_; (with_reducible refine (octets_Put.calls k a1 a2 t139 t140 _ A6.out).mono ?_); rintro e w49 ⟨v141, rfl, ho0, hb⟩; refine ⟨_, rfl, ?_⟩; have n0_ := Aside0.mk (Kd.R_elder' (by (with_reducible repeat (first | apply Kd.R_alloc | apply Kd.R_drewN | apply Kd.R_drew)); exact HO138.out) (Kd.R_base ho0) hb); have n1_ := Aside0.mk (Kd.R_lower (Kd.R_new' ho0 (Kd.R_lt (by (with_reducible repeat (first | apply Kd.R_alloc | apply Kd.R_drewN | apply Kd.R_drew)); exact HO138.out))) (below_size (by repeat (first | (with_reducible first | exact HB.out | apply below_alloc | apply pw_below_drewN | apply below_drew1) | exact HB.out)))); have n2_ := Aside0.mk (below_step (by repeat (first | (with_reducible first | exact HB.out | apply below_alloc | apply pw_below_drewN | apply below_drew1) | exact HB.out)) hb); clear HO138; clear HB; have HO138 := n0_; have HO142 := n1_; have HB := n2_; clear n0_ n1_ n2_; (try clear hb); (try clear hb2); (try clear hk); (try clear hi); (try clear ho0)))
      go_ret
      exact ⟨by first | rfl | (simp [errW_none, errW_some] <;> rfl) | (simp [*, errW_none, errW_some] <;> rfl), by repeat (first | (with_reducible first | exact HB.out | apply below_alloc | apply pw_below_drewN | apply below_drew1) | exact HB.out)⟩
  · replace c7 := Bool.eq_false_iff.mpr c7
    subst c7
    have H1 : (some false) = some r := by rw [if_neg (show ¬ (false = true) by decide)] at H; exact H
    clear H
    have H := H1
    clear H1
    obtain rfl := Option.some.inj H
    go_enter Try.func4, Try.ntmps4
    go_wp2_with (first | ((with_reducible refine gate_callee (f := 11) rfl ?_); refine goesL_ (some 12) rfl rfl Try.func11 (by kernel_rfl) rfl #[] rfl (by (try simp only [List.map_toArray, List.map_cons, List.map_nil]); first | done | rfl | (simp only [List.length_drop, List.length_take]; rfl)) ?_; (with_reducible refine (wayfinderlaw02_awake.calls k  false _ A4.out).mono ?_); rintro e w50 ⟨rfl, hb⟩; refine ⟨_, rfl, ?_⟩; have n0_ := Aside0.mk (below_step (by repeat (first | (with_reducible first | exact HB.out | apply below_alloc | apply pw_below_drewN | apply below_drew1) | exact HB.out)) hb); clear HB; have HB := n0_; clear n0_; (try clear hb); (try clear hb2); (try clear hk); (try clear hi)) | ((with_reducible refine gate_callee (f := 13) rfl ?_); refine goesL_ (some 16) rfl rfl Try.func13 (by kernel_rfl) rfl #[.int .i64 a0, .int .i64 a2] rfl (by (try simp only [List.map_toArray, List.map_cons, List.map_nil]); first | done | rfl | (simp only [List.length_drop, List.length_take]; rfl)) ?_; (with_reducible refine (octets_Put.calls k a0 a2 t135 t136 _ A5.out).mono ?_); rintro e w51 ⟨v137, rfl, ho0, hb⟩; refine ⟨_, rfl, ?_⟩; have n0_ := Aside0.mk (Kd.R_lower ho0 (below_size (by repeat (first | (with_reducible first | exact HB.out | apply below_alloc | apply pw_below_drewN | apply below_drew1) | exact HB.out)))); have n1_ := Aside0.mk (below_step (by repeat (first | (with_reducible first | exact HB.out | apply below_alloc | apply pw_below_drewN | apply below_drew1) | exact HB.out)) hb); clear HB; have HO138 := n0_; have HB := n1_; clear n0_ n1_; (try clear hb); (try clear hb2); (try clear hk); (try clear hi); (try clear ho0)) | ((with_reducible refine gate_callee (f := 13) rfl ?_); refine goesL_ (some 22) rfl rfl Try.func13 (by kernel_rfl) rfl #[.int .i64 a1, .int .i64 a2] rfl (by (try simp only [List.map_toArray, List.map_cons, List.map_nil]); first | done | rfl | (simp only [List.length_drop, List.length_take]; rfl)) ?_; (with_reducible refine (octets_Put.calls k a1 a2 t139 t140 _ A6.out).mono ?_); rintro e w52 ⟨v141, rfl, ho0, hb⟩; refine ⟨_, rfl, ?_⟩; have n0_ := Aside0.mk (Kd.R_elder' (by (with_reducible repeat (first | apply Kd.R_alloc | apply Kd.R_drewN | apply Kd.R_drew)); exact HO138.out) (Kd.R_base ho0) hb); have n1_ := Aside0.mk (Kd.R_lower (Kd.R_new' ho0 (Kd.R_lt (by (with_reducible repeat (first | apply Kd.R_alloc | apply Kd.R_drewN | apply Kd.R_drew)); exact HO138.out))) (below_size (by repeat (first | (with_reducible first | exact HB.out | apply below_alloc | apply pw_below_drewN | apply below_drew1) | exact HB.out)))); have n2_ := Aside0.mk (below_step (by repeat (first | (with_reducible first | exact HB.out | apply below_alloc | apply pw_below_drewN | apply below_drew1) | exact HB.out)) hb); clear HO138; clear HB; have HO138 := n0_; have HO142 := n1_; have HB := n2_; clear n0_ n1_ n2_; (try clear hb); (try clear hb2); (try clear hk); (try clear hi); (try clear ho0)))
    go_ret
    exact ⟨by first | rfl | (simp [errW_none, errW_some] <;> rfl) | (simp [*, errW_none, errW_some] <;> rfl), by repeat (first | (with_reducible first | exact HB.out | apply below_alloc | apply pw_below_drewN | apply below_drew1) | exact HB.out)⟩

/-- THE ONE PURE STATEMENT of wayfinderlaw02_OctetsOrder: yours. -/
def wayfinderlaw02_OctetsOrder.Pure : Prop := ∀ (a0 : Int) (a1 : Int) (a2 : Int), (Lit.int .i64 a0).wf = true → (Lit.int .i64 a1).wf = true → (Lit.int .i64 a2).wf = true → ∃ k, wayfinderlaw02_OctetsOrder.f k a0 a1 a2 = some true
theorem wayfinderlaw02_OctetsOrder.walk (P : wayfinderlaw02_OctetsOrder.Pure) (a0 : Int) (a1 : Int) (a2 : Int) (w : World) (w0 : (Lit.int .i64 a0).wf = true) (w1 : (Lit.int .i64 a1).wf = true) (w2 : (Lit.int .i64 a2).wf = true) :
    Calls Try.prog 4 #[.int .i64 a0, .int .i64 a1, .int .i64 a2] w fun e w' => e = .returned (.bool true) ∧ Below w.heap.size w w' := by
  obtain ⟨k, h⟩ := P a0 a1 a2 w0 w1 w2
  refine (wayfinderlaw02_OctetsOrder.calls k a0 a1 a2 true w h).mono ?_
  rintro e w' ⟨rfl, hd⟩
  exact ⟨rfl, hd⟩

/-! ### wayfinderlaw02_OctetsTurn: function 5 -/
def wayfinderlaw02_OctetsTurn.j0 : Nat → List Int → Int → Int → Bool → Bool → Option (Bool)
  | 0, _, _, _, _, _ => none
  | k + 1, x0, x1, x2, x7, x50 => if x50 = true then (some x7) else (if ([] : List Int).length + x0.length < 140737488355328 then ((some (([] : List Int) ++ x0 : List Int)).bind fun y144 => (if 0 ≤ (wrap64 (2 * x1)) then (if (wrap64 (2 * x1)) < (y144.length : Int) then (if 0 ≤ (wrap64 ((wrap64 (2 * x1)) + 1)) then (if (wrap64 ((wrap64 (2 * x1)) + 1)) < (y144.length : Int) then (if 0 ≤ (wrap64 (2 * x2)) then (if (wrap64 (2 * x2)) < (y144.length : Int) then ((some (y144.set ((wrap64 (2 * x1)) : Int).toNat (rd y144 (wrap64 (2 * x2))) : List Int)).bind fun y150 => (if 0 ≤ (wrap64 ((wrap64 (2 * x2)) + 1)) then (if (wrap64 ((wrap64 (2 * x2)) + 1)) < (y144.length : Int) then ((octets_Sum.f x0).bind fun t155 => ((octets_Sum.f (((y150.set ((wrap64 ((wrap64 (2 * x1)) + 1)) : Int).toNat (rd y150 (wrap64 ((wrap64 (2 * x2)) + 1)))).set ((wrap64 (2 * x2)) : Int).toNat (rd y144 (wrap64 (2 * x1)))).set ((wrap64 ((wrap64 (2 * x2)) + 1)) : Int).toNat (rd y144 (wrap64 ((wrap64 (2 * x1)) + 1))))).bind fun t156 => (some (t155 == t156)))) else (none)) else (none))) else (none)) else (none)) else (none)) else (none)) else (none)) else (none))) else (none))
def wayfinderlaw02_OctetsTurn.f (k : Nat) (l0 : List Int) (a1 : Int) (a2 : Int) : Option (Bool) := (wayfinderlaw02_awake.f k).bind fun t143 => (if t143 = true then (if (l0.length : Int) > 3000 then (wayfinderlaw02_OctetsTurn.j0 k l0 a1 a2 t143 true) else (if a1 < 0 then (wayfinderlaw02_OctetsTurn.j0 k l0 a1 a2 t143 true) else (if a2 < 0 then (wayfinderlaw02_OctetsTurn.j0 k l0 a1 a2 t143 true) else (if a1 > 1500 then (wayfinderlaw02_OctetsTurn.j0 k l0 a1 a2 t143 true) else (if a2 > 1500 then (wayfinderlaw02_OctetsTurn.j0 k l0 a1 a2 t143 true) else (if (wrap64 ((wrap64 (2 * a1)) + 1)) ≥ (l0.length : Int) then (wayfinderlaw02_OctetsTurn.j0 k l0 a1 a2 t143 true) else (wayfinderlaw02_OctetsTurn.j0 k l0 a1 a2 t143 (decide ((wrap64 ((wrap64 (2 * a2)) + 1)) ≥ (l0.length : Int)))))))))) else (wayfinderlaw02_OctetsTurn.j0 k l0 a1 a2 t143 true))
theorem wayfinderlaw02_OctetsTurn.mono_l : ∀ k, (∀ y0 y1 y2 y3 y4, LeO (wayfinderlaw02_OctetsTurn.j0 k y0 y1 y2 y3 y4) (wayfinderlaw02_OctetsTurn.j0 (k + 1) y0 y1 y2 y3 y4))
  | 0 => fun _ _ _ _ _ r h => by simp [wayfinderlaw02_OctetsTurn.j0] at h
  | k + 1 => by
    have ih0 := wayfinderlaw02_OctetsTurn.mono_l k
    · intro y0 y1 y2 y3 y4
      unfold wayfinderlaw02_OctetsTurn.j0
      repeat' first
      | (with_reducible exact ih0 _ _ _ _ _)
      | (with_reducible exact wayfinderlaw02_awake.mono _)
      | (with_reducible exact LeO.refl _)
      | (with_reducible exact LeO.none _)
      | (with_reducible refine LeO.ite ?_ ?_)
      | (with_reducible refine LeO.bind ?_ (fun _ => ?_))
      | exact ih0 _ _ _ _ _
      | exact wayfinderlaw02_awake.mono _
      | exact LeO.none _
      | refine LeO.ite ?_ ?_
      | refine LeO.bind ?_ (fun _ => ?_)
theorem wayfinderlaw02_OctetsTurn.mono : ∀ a0 a1 a2 k, LeO (wayfinderlaw02_OctetsTurn.f k a0 a1 a2) (wayfinderlaw02_OctetsTurn.f (k + 1) a0 a1 a2) := by
  intro a0 a1 a2 k
  have ih0 := wayfinderlaw02_OctetsTurn.mono_l k
  unfold wayfinderlaw02_OctetsTurn.f
  repeat' first
      | (with_reducible exact ih0 _ _ _ _ _)
      | (with_reducible exact wayfinderlaw02_awake.mono _)
      | (with_reducible exact LeO.refl _)
      | (with_reducible exact LeO.none _)
      | (with_reducible refine LeO.ite ?_ ?_)
      | (with_reducible refine LeO.bind ?_ (fun _ => ?_))
      | exact ih0 _ _ _ _ _
      | exact wayfinderlaw02_awake.mono _
      | exact LeO.none _
      | refine LeO.ite ?_ ?_
      | refine LeO.bind ?_ (fun _ => ?_)
set_option maxHeartbeats 8000000 in
set_option maxRecDepth 100000 in
theorem wayfinderlaw02_OctetsTurn.calls (k : Nat) (A0 : Option Addr) (c0 : Nat) (l0 : List Int) (a1 : Int) (a2 : Int) (r : Bool) (w : World) (hr0 : Kd.C (Kd.int .u8) w A0 l0.length l0) (hc0 : l0.length ≤ c0) (h : wayfinderlaw02_OctetsTurn.f k l0 a1 a2 = some r) :
    Calls Try.prog 5 #[.slice A0 l0.length c0, .int .i64 a1, .int .i64 a2] w fun e w' => e = .returned (.bool r) ∧ Below w.heap.size w w' := by
  have HR0 := Aside0.mk hr0
  have HC0 := Aside0.mk hc0
  clear hr0 hc0
  have HB := Aside0.mk (Below.refl w.heap.size w)
  have H : ((wayfinderlaw02_awake.f k).bind fun t143 => (if t143 = true then (if (l0.length : Int) > 3000 then (wayfinderlaw02_OctetsTurn.j0 k l0 a1 a2 t143 true) else (if a1 < 0 then (wayfinderlaw02_OctetsTurn.j0 k l0 a1 a2 t143 true) else (if a2 < 0 then (wayfinderlaw02_OctetsTurn.j0 k l0 a1 a2 t143 true) else (if a1 > 1500 then (wayfinderlaw02_OctetsTurn.j0 k l0 a1 a2 t143 true) else (if a2 > 1500 then (wayfinderlaw02_OctetsTurn.j0 k l0 a1 a2 t143 true) else (if (wrap64 ((wrap64 (2 * a1)) + 1)) ≥ (l0.length : Int) then (wayfinderlaw02_OctetsTurn.j0 k l0 a1 a2 t143 true) else (wayfinderlaw02_OctetsTurn.j0 k l0 a1 a2 t143 (decide ((wrap64 ((wrap64 (2 * a2)) + 1)) ≥ (l0.length : Int)))))))))) else (wayfinderlaw02_OctetsTurn.j0 k l0 a1 a2 t143 true))) = some r := h
  clear h
  replace H := Option.bind_eq_some_iff.mp H
  obtain ⟨t143, A40, H⟩ := H
  replace H : (if t143 = true then (if (l0.length : Int) > 3000 then (wayfinderlaw02_OctetsTurn.j0 k l0 a1 a2 t143 true) else (if a1 < 0 then (wayfinderlaw02_OctetsTurn.j0 k l0 a1 a2 t143 true) else (if a2 < 0 then (wayfinderlaw02_OctetsTurn.j0 k l0 a1 a2 t143 true) else (if a1 > 1500 then (wayfinderlaw02_OctetsTurn.j0 k l0 a1 a2 t143 true) else (if a2 > 1500 then (wayfinderlaw02_OctetsTurn.j0 k l0 a1 a2 t143 true) else (if (wrap64 ((wrap64 (2 * a1)) + 1)) ≥ (l0.length : Int) then (wayfinderlaw02_OctetsTurn.j0 k l0 a1 a2 t143 true) else (wayfinderlaw02_OctetsTurn.j0 k l0 a1 a2 t143 (decide ((wrap64 ((wrap64 (2 * a2)) + 1)) ≥ (l0.length : Int)))))))))) else (wayfinderlaw02_OctetsTurn.j0 k l0 a1 a2 t143 true)) = some r := H
  have A4 := Aside0.mk A40
  clear A40
  have HC5 := Aside0.mk H
  clear H
  go_enter Try.func5, Try.ntmps5
  go_upto_region 2 with (first | ((with_reducible refine gate_callee (f := 11) rfl ?_); refine goesL_ (some 11) rfl rfl Try.func11 (by kernel_rfl) rfl #[] rfl (by (try simp only [List.map_toArray, List.map_cons, List.map_nil]); first | done | rfl | (simp only [List.length_drop, List.length_take]; rfl)) ?_; (with_reducible refine (wayfinderlaw02_awake.calls k  t143 _ A4.out).mono ?_); rintro e w6 ⟨rfl, hb⟩; refine ⟨_, rfl, ?_⟩; have n0_ := Aside0.mk (below_step (by repeat (first | (with_reducible first | exact HB.out | apply below_alloc | apply pw_below_drewN | apply below_drew1) | exact HB.out)) hb); clear HB; have HB := n0_; clear n0_; (try clear hb); (try clear hb2); (try clear hk); (try clear hi)))
  (try simp only [Act.put, List.setIfInBounds_toArray, List.set_cons_zero, List.set_cons_succ])
  go_cut [50] (fun v50 wc => ∃ (kq : Nat) (x50_4 : Bool), v50 = .bool x50_4 ∧ Aside0 (wayfinderlaw02_OctetsTurn.j0 kq l0 a1 a2 t143 x50_4 = some r) ∧ Aside0 (kq ≤ k) ∧ Aside0 (Below w.heap.size w wc))
  case first =>
    have H := HC5.out
    clear HC5
    by_cases c7 : t143 = true
    · subst c7
      have H1 : (if (l0.length : Int) > 3000 then (wayfinderlaw02_OctetsTurn.j0 k l0 a1 a2 true true) else (if a1 < 0 then (wayfinderlaw02_OctetsTurn.j0 k l0 a1 a2 true true) else (if a2 < 0 then (wayfinderlaw02_OctetsTurn.j0 k l0 a1 a2 true true) else (if a1 > 1500 then (wayfinderlaw02_OctetsTurn.j0 k l0 a1 a2 true true) else (if a2 > 1500 then (wayfinderlaw02_OctetsTurn.j0 k l0 a1 a2 true true) else (if (wrap64 ((wrap64 (2 * a1)) + 1)) ≥ (l0.length : Int) then (wayfinderlaw02_OctetsTurn.j0 k l0 a1 a2 true true) else (wayfinderlaw02_OctetsTurn.j0 k l0 a1 a2 true (decide ((wrap64 ((wrap64 (2 * a2)) + 1)) ≥ (l0.length : Int)))))))))) = some r := by rw [if_pos rfl] at H; exact H
      clear H
      have H := H1
      clear H1
      by_cases c8 : (l0.length : Int) > 3000
      · rw [if_pos c8] at H
        have c8b0 : decide (3000 < (l0.length : Int)) = true := decide_eq_true c8
        have c8b1 : decide (3000 < l0.length) = true := decide_eq_true (by omega)
        clear c8
        (first | rw [c8b0] | (simp only [i64_w, i32_w]; rw [c8b0]) | skip)
        have H' := Aside0.mk H
        clear H
        go_wp2
        go_meet
        case rel => exact ⟨_, (true), (by first | rfl | (simp; done) | (simp [*]; done)), H', ⟨by first | omega | exact Nat.le_refl _⟩, ⟨by repeat (first | (with_reducible first | exact HB.out | apply below_alloc | apply pw_below_drewN | apply below_drew1) | exact HB.out)⟩⟩
      · rw [if_neg c8] at H
        have c8b0 : decide (3000 < (l0.length : Int)) = false := decide_eq_false c8
        have c8b1 : decide (3000 < l0.length) = false := decide_eq_false (by omega)
        clear c8
        (first | rw [c8b0] | (simp only [i64_w, i32_w]; rw [c8b0]) | skip)
        by_cases c9 : a1 < 0
        · rw [if_pos c9] at H
          have c9b0 : decide (a1 < 0) = true := decide_eq_true c9
          clear c9
          have H' := Aside0.mk H
          clear H
          go_wp2
          go_meet
          case rel => exact ⟨_, (true), (by first | rfl | (simp; done) | (simp [*]; done)), H', ⟨by first | omega | exact Nat.le_refl _⟩, ⟨by repeat (first | (with_reducible first | exact HB.out | apply below_alloc | apply pw_below_drewN | apply below_drew1) | exact HB.out)⟩⟩
        · rw [if_neg c9] at H
          have c9b0 : decide (a1 < 0) = false := decide_eq_false c9
          clear c9
          by_cases c10 : a2 < 0
          · rw [if_pos c10] at H
            have c10b0 : decide (a2 < 0) = true := decide_eq_true c10
            clear c10
            have H' := Aside0.mk H
            clear H
            go_wp2
            go_meet
            case rel => exact ⟨_, (true), (by first | rfl | (simp; done) | (simp [*]; done)), H', ⟨by first | omega | exact Nat.le_refl _⟩, ⟨by repeat (first | (with_reducible first | exact HB.out | apply below_alloc | apply pw_below_drewN | apply below_drew1) | exact HB.out)⟩⟩
          · rw [if_neg c10] at H
            have c10b0 : decide (a2 < 0) = false := decide_eq_false c10
            clear c10
            by_cases c11 : a1 > 1500
            · rw [if_pos c11] at H
              have c11b0 : decide (1500 < a1) = true := decide_eq_true c11
              clear c11
              have H' := Aside0.mk H
              clear H
              go_wp2
              go_meet
              case rel => exact ⟨_, (true), (by first | rfl | (simp; done) | (simp [*]; done)), H', ⟨by first | omega | exact Nat.le_refl _⟩, ⟨by repeat (first | (with_reducible first | exact HB.out | apply below_alloc | apply pw_below_drewN | apply below_drew1) | exact HB.out)⟩⟩
            · rw [if_neg c11] at H
              have c11b0 : decide (1500 < a1) = false := decide_eq_false c11
              clear c11
              by_cases c12 : a2 > 1500
              · rw [if_pos c12] at H
                have c12b0 : decide (1500 < a2) = true := decide_eq_true c12
                clear c12
                have H' := Aside0.mk H
                clear H
                go_wp2
                go_meet
                case rel => exact ⟨_, (true), (by first | rfl | (simp; done) | (simp [*]; done)), H', ⟨by first | omega | exact Nat.le_refl _⟩, ⟨by repeat (first | (with_reducible first | exact HB.out | apply below_alloc | apply pw_below_drewN | apply below_drew1) | exact HB.out)⟩⟩
              · rw [if_neg c12] at H
                have c12b0 : decide (1500 < a2) = false := decide_eq_false c12
                clear c12
                by_cases c13 : (wrap64 ((wrap64 (2 * a1)) + 1)) ≥ (l0.length : Int)
                · rw [if_pos c13] at H
                  have c13b0 : decide ((l0.length : Int) ≤ (wrap64 ((wrap64 (2 * a1)) + 1))) = true := decide_eq_true c13
                  clear c13
                  have H' := Aside0.mk H
                  clear H
                  go_wp2
                  go_meet
                  case rel => exact ⟨_, (true), (by first | rfl | (simp; done) | (simp [*]; done)), H', ⟨by first | omega | exact Nat.le_refl _⟩, ⟨by repeat (first | (with_reducible first | exact HB.out | apply below_alloc | apply pw_below_drewN | apply below_drew1) | exact HB.out)⟩⟩
                · rw [if_neg c13] at H
                  have c13b0 : decide ((l0.length : Int) ≤ (wrap64 ((wrap64 (2 * a1)) + 1))) = false := decide_eq_false c13
                  clear c13
                  have H' := Aside0.mk H
                  clear H
                  go_wp2
                  go_meet
                  case rel => exact ⟨_, (decide ((wrap64 ((wrap64 (2 * a2)) + 1)) ≥ (l0.length : Int))), (by first | rfl | (simp; done) | (simp [*]; done)), H', ⟨by first | omega | exact Nat.le_refl _⟩, ⟨by repeat (first | (with_reducible first | exact HB.out | apply below_alloc | apply pw_below_drewN | apply below_drew1) | exact HB.out)⟩⟩
    · replace c7 := Bool.eq_false_iff.mpr c7
      subst c7
      have H1 : (wayfinderlaw02_OctetsTurn.j0 k l0 a1 a2 false true) = some r := by rw [if_neg (show ¬ (false = true) by decide)] at H; exact H
      clear H
      have H := H1
      clear H1
      have H' := Aside0.mk H
      clear H
      go_wp2
      go_meet
      case rel => exact ⟨_, (true), (by first | rfl | (simp; done) | (simp [*]; done)), H', ⟨by first | omega | exact Nat.le_refl _⟩, ⟨by repeat (first | (with_reducible first | exact HB.out | apply below_alloc | apply pw_below_drewN | apply below_drew1) | exact HB.out)⟩⟩
  case rest =>
    clear HC5
    try clear c1
    try clear p2
    try clear c5
    try clear p6
    try clear c7
    try clear c8
    try clear c8b0
    try clear c8b1
    try clear c9
    try clear c9b0
    try clear c10
    try clear c10b0
    try clear c11
    try clear c11b0
    try clear c12
    try clear c12b0
    try clear c13
    try clear c13b0
    obtain ⟨kq, x50_4, rfl, HA, HJ4, HB⟩ := hcut
    cases kq with
    | zero => exact absurd HA.out (by simp [wayfinderlaw02_OctetsTurn.j0])
    | succ kj4 =>
      have H := HA.out
      clear HA
      simp only [wayfinderlaw02_OctetsTurn.j0] at H
      by_cases c14 : x50_4 = true
      · subst c14
        have H1 : (some t143) = some r := by rw [if_pos rfl] at H; exact H
        clear H
        have H := H1
        clear H1
        obtain rfl := Option.some.inj H
        go_wp2
        go_ret
        exact ⟨by first | rfl | (simp [errW_none, errW_some] <;> rfl) | (simp [*, errW_none, errW_some] <;> rfl), by repeat (first | (with_reducible first | exact HB.out | apply below_alloc | apply pw_below_drewN | apply below_drew1) | exact HB.out)⟩
      · replace c14 := Bool.eq_false_iff.mpr c14
        subst c14
        have H1 : (if ([] : List Int).length + l0.length < 140737488355328 then ((some (([] : List Int) ++ l0 : List Int)).bind fun y144 => (if 0 ≤ (wrap64 (2 * a1)) then (if (wrap64 (2 * a1)) < (y144.length : Int) then (if 0 ≤ (wrap64 ((wrap64 (2 * a1)) + 1)) then (if (wrap64 ((wrap64 (2 * a1)) + 1)) < (y144.length : Int) then (if 0 ≤ (wrap64 (2 * a2)) then (if (wrap64 (2 * a2)) < (y144.length : Int) then ((some (y144.set ((wrap64 (2 * a1)) : Int).toNat (rd y144 (wrap64 (2 * a2))) : List Int)).bind fun y150 => (if 0 ≤ (wrap64 ((wrap64 (2 * a2)) + 1)) then (if (wrap64 ((wrap64 (2 * a2)) + 1)) < (y144.length : Int) then ((octets_Sum.f l0).bind fun t155 => ((octets_Sum.f (((y150.set ((wrap64 ((wrap64 (2 * a1)) + 1)) : Int).toNat (rd y150 (wrap64 ((wrap64 (2 * a2)) + 1)))).set ((wrap64 (2 * a2)) : Int).toNat (rd y144 (wrap64 (2 * a1)))).set ((wrap64 ((wrap64 (2 * a2)) + 1)) : Int).toNat (rd y144 (wrap64 ((wrap64 (2 * a1)) + 1))))).bind fun t156 => (some (t155 == t156)))) else (none)) else (none))) else (none)) else (none)) else (none)) else (none)) else (none)) else (none))) else (none)) = some r := by rw [if_neg (show ¬ (false = true) by decide)] at H; exact H
        clear H
        have H := H1
        clear H1
        by_cases c15 : ([] : List Int).length + l0.length < 140737488355328
        · rw [if_pos c15] at H
          have LMc15 := Aside0.mk c15
          clear c15
          obtain ⟨y144, hy144⟩ : ∃ y_ : List Int, y_ = (([] : List Int) ++ l0) := ⟨_, rfl⟩
          replace H : (if 0 ≤ (wrap64 (2 * a1)) then (if (wrap64 (2 * a1)) < (y144.length : Int) then (if 0 ≤ (wrap64 ((wrap64 (2 * a1)) + 1)) then (if (wrap64 ((wrap64 (2 * a1)) + 1)) < (y144.length : Int) then (if 0 ≤ (wrap64 (2 * a2)) then (if (wrap64 (2 * a2)) < (y144.length : Int) then ((some (y144.set ((wrap64 (2 * a1)) : Int).toNat (rd y144 (wrap64 (2 * a2))) : List Int)).bind fun y150 => (if 0 ≤ (wrap64 ((wrap64 (2 * a2)) + 1)) then (if (wrap64 ((wrap64 (2 * a2)) + 1)) < (y144.length : Int) then ((octets_Sum.f l0).bind fun t155 => ((octets_Sum.f (((y150.set ((wrap64 ((wrap64 (2 * a1)) + 1)) : Int).toNat (rd y150 (wrap64 ((wrap64 (2 * a2)) + 1)))).set ((wrap64 (2 * a2)) : Int).toNat (rd y144 (wrap64 (2 * a1)))).set ((wrap64 ((wrap64 (2 * a2)) + 1)) : Int).toNat (rd y144 (wrap64 ((wrap64 (2 * a1)) + 1))))).bind fun t156 => (some (t155 == t156)))) else (none)) else (none))) else (none)) else (none)) else (none)) else (none)) else (none)) else (none)) = some r := by first | (rw [hy144]; with_reducible exact H) | (have H2_ := (Option.bind_some _ _).symm.trans H; rw [hy144]; with_reducible exact H2_) | (have H2_ := (Option.bind_some _ _).symm.trans H; with_reducible exact H2_) | with_reducible exact H | (rw [hy144]; exact H) | exact H
          have Ny144 := Aside0.mk hy144
          clear hy144
          obtain ⟨ji16, hji16⟩ : ∃ j_ : Int, (wrap64 (2 * a1)) = j_ := ⟨_, rfl⟩
          replace H : (if 0 ≤ (ji16) then (if (ji16) < (y144.length : Int) then (if 0 ≤ (wrap64 ((ji16) + 1)) then (if (wrap64 ((ji16) + 1)) < (y144.length : Int) then (if 0 ≤ (wrap64 (2 * a2)) then (if (wrap64 (2 * a2)) < (y144.length : Int) then ((some (y144.set ((ji16) : Int).toNat (rd y144 (wrap64 (2 * a2))) : List Int)).bind fun y150 => (if 0 ≤ (wrap64 ((wrap64 (2 * a2)) + 1)) then (if (wrap64 ((wrap64 (2 * a2)) + 1)) < (y144.length : Int) then ((octets_Sum.f l0).bind fun t155 => ((octets_Sum.f (((y150.set ((wrap64 ((ji16) + 1)) : Int).toNat (rd y150 (wrap64 ((wrap64 (2 * a2)) + 1)))).set ((wrap64 (2 * a2)) : Int).toNat (rd y144 (ji16))).set ((wrap64 ((wrap64 (2 * a2)) + 1)) : Int).toNat (rd y144 (wrap64 ((ji16) + 1))))).bind fun t156 => (some (t155 == t156)))) else (none)) else (none))) else (none)) else (none)) else (none)) else (none)) else (none)) else (none)) = some r := by first | (rw [hji16] at H; exact H) | (simp only [hji16] at H ⊢; exact H)
          have hji16w : (IntKind.i64.wrap (2 * a1)) = ji16 := (i64_w _).trans hji16
          by_cases c17 : 0 ≤ (ji16)
          · rw [if_pos c17] at H
            have c17b0 : decide (0 ≤ (ji16)) = true := decide_eq_true c17
            clear c17
            by_cases c18 : (ji16) < (y144.length : Int)
            · rw [if_pos c18] at H
              have c18b0 : decide ((ji16) < (y144.length : Int)) = true := decide_eq_true c18
              clear c18
              obtain ⟨ji19, hji19⟩ : ∃ j_ : Int, (wrap64 ((ji16) + 1)) = j_ := ⟨_, rfl⟩
              replace H : (if 0 ≤ (ji19) then (if (ji19) < (y144.length : Int) then (if 0 ≤ (wrap64 (2 * a2)) then (if (wrap64 (2 * a2)) < (y144.length : Int) then ((some (y144.set ((ji16) : Int).toNat (rd y144 (wrap64 (2 * a2))) : List Int)).bind fun y150 => (if 0 ≤ (wrap64 ((wrap64 (2 * a2)) + 1)) then (if (wrap64 ((wrap64 (2 * a2)) + 1)) < (y144.length : Int) then ((octets_Sum.f l0).bind fun t155 => ((octets_Sum.f (((y150.set ((ji19) : Int).toNat (rd y150 (wrap64 ((wrap64 (2 * a2)) + 1)))).set ((wrap64 (2 * a2)) : Int).toNat (rd y144 (ji16))).set ((wrap64 ((wrap64 (2 * a2)) + 1)) : Int).toNat (rd y144 (ji19)))).bind fun t156 => (some (t155 == t156)))) else (none)) else (none))) else (none)) else (none)) else (none)) else (none)) = some r := by first | (rw [hji19] at H; exact H) | (simp only [hji19] at H ⊢; exact H)
              have hji19w : (IntKind.i64.wrap ((ji16) + 1)) = ji19 := (i64_w _).trans hji19
              by_cases c20 : 0 ≤ (ji19)
              · rw [if_pos c20] at H
                have c20b0 : decide (0 ≤ (ji19)) = true := decide_eq_true c20
                clear c20
                by_cases c21 : (ji19) < (y144.length : Int)
                · rw [if_pos c21] at H
                  have c21b0 : decide ((ji19) < (y144.length : Int)) = true := decide_eq_true c21
                  clear c21
                  obtain ⟨ji22, hji22⟩ : ∃ j_ : Int, (wrap64 (2 * a2)) = j_ := ⟨_, rfl⟩
                  replace H : (if 0 ≤ (ji22) then (if (ji22) < (y144.length : Int) then ((some (y144.set ((ji16) : Int).toNat (rd y144 (ji22)) : List Int)).bind fun y150 => (if 0 ≤ (wrap64 ((ji22) + 1)) then (if (wrap64 ((ji22) + 1)) < (y144.length : Int) then ((octets_Sum.f l0).bind fun t155 => ((octets_Sum.f (((y150.set ((ji19) : Int).toNat (rd y150 (wrap64 ((ji22) + 1)))).set ((ji22) : Int).toNat (rd y144 (ji16))).set ((wrap64 ((ji22) + 1)) : Int).toNat (rd y144 (ji19)))).bind fun t156 => (some (t155 == t156)))) else (none)) else (none))) else (none)) else (none)) = some r := by first | (rw [hji22] at H; exact H) | (simp only [hji22] at H ⊢; exact H)
                  have hji22w : (IntKind.i64.wrap (2 * a2)) = ji22 := (i64_w _).trans hji22
                  by_cases c23 : 0 ≤ (ji22)
                  · rw [if_pos c23] at H
                    have c23b0 : decide (0 ≤ (ji22)) = true := decide_eq_true c23
                    clear c23
                    by_cases c24 : (ji22) < (y144.length : Int)
                    · rw [if_pos c24] at H
                      have c24b0 : decide ((ji22) < (y144.length : Int)) = true := decide_eq_true c24
                      clear c24
                      obtain ⟨y150, hy150⟩ : ∃ y_ : List Int, y_ = (y144.set ((ji16) : Int).toNat (rd y144 (ji22))) := ⟨_, rfl⟩
                      replace H : (if 0 ≤ (wrap64 ((ji22) + 1)) then (if (wrap64 ((ji22) + 1)) < (y144.length : Int) then ((octets_Sum.f l0).bind fun t155 => ((octets_Sum.f (((y150.set ((ji19) : Int).toNat (rd y150 (wrap64 ((ji22) + 1)))).set ((ji22) : Int).toNat (rd y144 (ji16))).set ((wrap64 ((ji22) + 1)) : Int).toNat (rd y144 (ji19)))).bind fun t156 => (some (t155 == t156)))) else (none)) else (none)) = some r := by first | (rw [hy150]; with_reducible exact H) | (have H2_ := (Option.bind_some _ _).symm.trans H; rw [hy150]; with_reducible exact H2_) | (have H2_ := (Option.bind_some _ _).symm.trans H; with_reducible exact H2_) | with_reducible exact H | (rw [hy150]; exact H) | exact H
                      have Ny150 := Aside0.mk hy150
                      clear hy150
                      obtain ⟨ji26, hji26⟩ : ∃ j_ : Int, (wrap64 ((ji22) + 1)) = j_ := ⟨_, rfl⟩
                      replace H : (if 0 ≤ (ji26) then (if (ji26) < (y144.length : Int) then ((octets_Sum.f l0).bind fun t155 => ((octets_Sum.f (((y150.set ((ji19) : Int).toNat (rd y150 (ji26))).set ((ji22) : Int).toNat (rd y144 (ji16))).set ((ji26) : Int).toNat (rd y144 (ji19)))).bind fun t156 => (some (t155 == t156)))) else (none)) else (none)) = some r := by first | (rw [hji26] at H; exact H) | (simp only [hji26] at H ⊢; exact H)
                      have hji26w : (IntKind.i64.wrap ((ji22) + 1)) = ji26 := (i64_w _).trans hji26
                      by_cases c27 : 0 ≤ (ji26)
                      · rw [if_pos c27] at H
                        have c27b0 : decide (0 ≤ (ji26)) = true := decide_eq_true c27
                        clear c27
                        by_cases c28 : (ji26) < (y144.length : Int)
                        · rw [if_pos c28] at H
                          have c28b0 : decide ((ji26) < (y144.length : Int)) = true := decide_eq_true c28
                          clear c28
                          obtain ⟨y152, hy152⟩ : ∃ y_ : List Int, y_ = (y150.set ((ji19) : Int).toNat (rd y150 (ji26))) := ⟨_, rfl⟩
                          replace H : ((octets_Sum.f l0).bind fun t155 => ((octets_Sum.f ((y152.set ((ji22) : Int).toNat (rd y144 (ji16))).set ((ji26) : Int).toNat (rd y144 (ji19)))).bind fun t156 => (some (t155 == t156)))) = some r := by first | (rw [hy152]; with_reducible exact H) | (have H2_ := (Option.bind_some _ _).symm.trans H; rw [hy152]; with_reducible exact H2_) | (have H2_ := (Option.bind_some _ _).symm.trans H; with_reducible exact H2_) | with_reducible exact H | (rw [hy152]; exact H) | exact H
                          have Ny152 := Aside0.mk hy152
                          clear hy152
                          obtain ⟨y153, hy153⟩ : ∃ y_ : List Int, y_ = (y152.set ((ji22) : Int).toNat (rd y144 (ji16))) := ⟨_, rfl⟩
                          replace H : ((octets_Sum.f l0).bind fun t155 => ((octets_Sum.f (y153.set ((ji26) : Int).toNat (rd y144 (ji19)))).bind fun t156 => (some (t155 == t156)))) = some r := by first | (rw [hy153]; with_reducible exact H) | (have H2_ := (Option.bind_some _ _).symm.trans H; rw [hy153]; with_reducible exact H2_) | (have H2_ := (Option.bind_some _ _).symm.trans H; with_reducible exact H2_) | with_reducible exact H | (rw [hy153]; exact H) | exact H
                          have Ny153 := Aside0.mk hy153
                          clear hy153
                          obtain ⟨y154, hy154⟩ : ∃ y_ : List Int, y_ = (y153.set ((ji26) : Int).toNat (rd y144 (ji19))) := ⟨_, rfl⟩
                          replace H : ((octets_Sum.f l0).bind fun t155 => ((octets_Sum.f y154).bind fun t156 => (some (t155 == t156)))) = some r := by first | (rw [hy154]; with_reducible exact H) | (have H2_ := (Option.bind_some _ _).symm.trans H; rw [hy154]; with_reducible exact H2_) | (have H2_ := (Option.bind_some _ _).symm.trans H; with_reducible exact H2_) | with_reducible exact H | (rw [hy154]; exact H) | exact H
                          have Ny154 := Aside0.mk hy154
                          clear hy154
                          replace H := Option.bind_eq_some_iff.mp H
                          obtain ⟨t155, A320, H⟩ := H
                          replace H : ((octets_Sum.f y154).bind fun t156 => (some (t155 == t156))) = some r := H
                          have A32 := Aside0.mk A320
                          clear A320
                          replace H := Option.bind_eq_some_iff.mp H
                          obtain ⟨t156, A330, H⟩ := H
                          replace H : (some (t155 == t156)) = some r := H
                          have A33 := Aside0.mk A330
                          clear A330
                          obtain rfl := Option.some.inj H
                          go_wp2_with (first | ((with_reducible refine gate_builtin (b := .append) (xs := #[.const (.slice none 0 0), .tmp 52]) rfl ?_); (try (refine gate_guard (by rfl) ?_; dsimp only)); at_builtin; refine Kd.R_append_rows (Kd.int .u8) (w0 := w) w.heap.size rfl (.const (.slice none 0 0)) (.tmp 52) 22 5 (.int .u8 0) 1 rfl Try.underlying22 info5 rfl (by decide) (by omega) (.slice none 0 0) ([] : List Int) l0 _ _ _ (fun _ => True) (fun _ => False) rfl rfl ?aO ?aR (fun _ _ h => h) (fun _ h => h.elim) ?aF ?aB ?aS ?aL ?_; (case aR => repeat (first | exact (Kd.C_below HR0.out HB.out) | (with_reducible refine Kd.C_alloc ?_ _) | (with_reducible refine Kd.C_drewN ?_ _) | (with_reducible refine Kd.C_drew ?_))); (case aB => exact (by repeat (first | (with_reducible first | exact HB.out | apply below_alloc | apply pw_below_drewN | apply below_drew1) | exact HB.out))); (case aF => exact (fun _ _ => trivial)); (case aO => exact ((Kd.R_nil _ _ _ _ (fun _ => True)))); (case aS => exact (below_size (by repeat (first | (with_reducible first | exact HB.out | apply below_alloc | apply pw_below_drewN | apply below_drew1) | exact HB.out)))); (case aL => have := LMc15.out; omega); intro v145 w34 ho hb hg hat; rw [← Ny144.out] at ho; have n0_ := Aside0.mk (hb); have n1_ := Aside0.mk (ho); clear HB; have HB := n0_; have HO146 := n1_; clear n0_ n1_; clear ho hb hg hat; obtain ⟨Ao35, co35, eo35⟩ := Kd.R_slice HO146.out; subst eo35; have p147 : 0 ≤ ((ji16) : Int) := of_decide_eq_true (by first | (with_reducible assumption) | assumption); have q147 : (ji16) < (y144.length : Int) := of_decide_eq_true (by first | (with_reducible assumption) | assumption); obtain ⟨ad147, e147, hx147_0⟩ := Kd.at_int (Kd.R_reads' HO146.out).2.2 (ji16) p147 q147; cases e147; replace p147 := eq_true p147; replace q147 := eq_true q147; have p148 : 0 ≤ ((ji19) : Int) := of_decide_eq_true (by first | (with_reducible assumption) | assumption); have q148 : (ji19) < (y144.length : Int) := of_decide_eq_true (by first | (with_reducible assumption) | assumption); obtain ⟨ad148, e148, hx148_0⟩ := Kd.at_int (Kd.R_reads' HO146.out).2.2 (ji19) p148 q148; obtain rfl : ad147 = ad148 := (by injection e148); replace p148 := eq_true p148; replace q148 := eq_true q148; have p149 : 0 ≤ ((ji22) : Int) := of_decide_eq_true (by first | (with_reducible assumption) | assumption); have q149 : (ji22) < (y144.length : Int) := of_decide_eq_true (by first | (with_reducible assumption) | assumption); obtain ⟨ad149, e149, hx149_0⟩ := Kd.at_int (Kd.R_reads' HO146.out).2.2 (ji22) p149 q149; obtain rfl : ad147 = ad149 := (by injection e149); replace p149 := eq_true p149; replace q149 := eq_true q149; have p25 : 0 ≤ ((ji16) : Int) := of_decide_eq_true (by first | (with_reducible assumption) | assumption); have q25 : ((ji16) : Int) < ((y144.length : Int) : Int) := of_decide_eq_true (by first | (with_reducible assumption) | assumption); obtain ⟨go25, co25, eo25, gb25, gl25, cl25, HG25⟩ := Kd.R_form HO146.out (by omega); (first | cases eo25 | (injection eo25 with ea_ en_ ec_; (first | subst ea_ | (injection ea_ with ea_; subst ea_)); subst ec_; clear en_)); have GB25 := Aside0.mk gb25; have GG25 := Aside0.mk HG25; clear gb25 gl25 HG25; (first | simp only [add_plain] at hx147_0 | skip); (first | simp only [add_plain] at hx148_0 | skip); (first | simp only [add_plain] at hx149_0 | skip); obtain ⟨hx25_0, hf25_0⟩ := Kd.R_celln 0 HO146.out ((ji16) : Int) p25 q25; replace p25 := eq_true p25; replace q25 := eq_true q25; obtain ⟨hy36_, hz36_⟩ := Kd.R_celln 0 HO146.out ((ji16) : Int) (of_decide_eq_true (by first | (with_reducible assumption) | assumption)) (of_decide_eq_true (by first | (with_reducible assumption) | assumption)); have HP36 := Kd.R_putg HO146.out ((ji16) : Int) (rd y144 (ji22))) | ((with_reducible refine gate_store (t := 5) (p := 73) rfl ?_); refine store_event (t := 5) (p := 73) (v := ?vo_w37) (w1 := (w34.setCell ⟨go25, ((ji16) : Int).toNat, none⟩ (.int .u8 (rd y144 (ji22))))) ?hg ?ho ?hn ?hr ?_; (case ho => rfl); (case hg => rfl); (case hn => rfl); (case hr => first | (go_simp; done) | (go_simp; rfl)); intro w37 hw; have hg : w34.grownBy w37 (some go25) := (by rw [hw]; exact HP36.2); have hp_ : Kd.R (Kd.int .u8) 5 w37 w.heap.size (fun _ => True) (.slice (some ⟨go25, 0, none⟩) y144.length co35) y150 := (by rw [hw, Ny150.out]; exact HP36.1); clear HP36; have n0_ := Aside0.mk (hp_); have n1_ := Aside0.mk ((by rw [hw]; exact below_set (HB.out) GB25.out : Below w.heap.size w w37)); clear HO146; clear HB; have HO146 := n0_; have HB := n1_; clear n0_ n1_; clear hg hw hp_; have p151 : 0 ≤ ((ji26) : Int) := of_decide_eq_true (by first | (with_reducible assumption) | assumption); have q151 : (ji26) < (y150.length : Int) := (by have h_ : ((ji26) : Int) < ((y144.length : Int) : Int) := of_decide_eq_true (by first | (with_reducible assumption) | assumption); first | (have e_ := (Kd.R_reads' HO146.out).1; omega) | simpa only [Ny150.out, List.length_set] using h_); have ql151 : (((ji26) : Int) < ((y144.length : Int) : Int)) = True := eq_true (of_decide_eq_true (by first | (with_reducible assumption) | assumption)); obtain ⟨ad151, e151, hx151_0⟩ := Kd.at_int (Kd.R_reads' HO146.out).2.2 (ji26) p151 q151; obtain rfl : (⟨go25, 0, none⟩ : Addr) = ad151 := (by injection e151); (first | simp only [add_plain] at hx151_0 | simp only [add_at] at hx151_0 | simp only [Addr.add, Nat.zero_add] at hx151_0 | skip); replace p151 := eq_true p151; replace q151 := eq_true q151; have p29 : 0 ≤ ((ji19) : Int) := of_decide_eq_true (by first | (with_reducible assumption) | assumption); have q29 : ((ji19) : Int) < ((y144.length : Int) : Int) := of_decide_eq_true (by first | (with_reducible assumption) | assumption); obtain ⟨hx29_0, hf29_0⟩ := Kd.R_celln 0 HO146.out ((ji19) : Int) p29 q29; replace p29 := eq_true p29; replace q29 := eq_true q29; obtain ⟨hy38_, hz38_⟩ := Kd.R_celln 0 HO146.out ((ji19) : Int) (of_decide_eq_true (by first | (with_reducible assumption) | assumption)) (of_decide_eq_true (by first | (with_reducible assumption) | assumption)); have HP38 := Kd.R_putg HO146.out ((ji19) : Int) (rd y150 (ji26))) | ((with_reducible refine gate_store (t := 5) (p := 84) rfl ?_); refine store_event (t := 5) (p := 84) (v := ?vo_w39) (w1 := (w37.setCell ⟨go25, ((ji19) : Int).toNat, none⟩ (.int .u8 (rd y150 (ji26))))) ?hg ?ho ?hn ?hr ?_; (case ho => rfl); (case hg => rfl); (case hn => rfl); (case hr => first | (go_simp; done) | (go_simp; rfl)); intro w39 hw; have hg : w37.grownBy w39 (some go25) := (by rw [hw]; exact HP38.2); have hp_ : Kd.R (Kd.int .u8) 5 w39 w.heap.size (fun _ => True) (.slice (some ⟨go25, 0, none⟩) y144.length co35) y152 := (by rw [hw, Ny152.out]; exact HP38.1); clear HP38; have n0_ := Aside0.mk (hp_); have n1_ := Aside0.mk ((by rw [hw]; exact below_set (HB.out) GB25.out : Below w.heap.size w w39)); clear HO146; clear HB; have HO146 := n0_; have HB := n1_; clear n0_ n1_; clear hg hw hp_; have p30 : 0 ≤ ((ji22) : Int) := of_decide_eq_true (by first | (with_reducible assumption) | assumption); have q30 : ((ji22) : Int) < ((y144.length : Int) : Int) := of_decide_eq_true (by first | (with_reducible assumption) | assumption); obtain ⟨hx30_0, hf30_0⟩ := Kd.R_celln 0 HO146.out ((ji22) : Int) p30 q30; replace p30 := eq_true p30; replace q30 := eq_true q30; obtain ⟨hy40_, hz40_⟩ := Kd.R_celln 0 HO146.out ((ji22) : Int) (of_decide_eq_true (by first | (with_reducible assumption) | assumption)) (of_decide_eq_true (by first | (with_reducible assumption) | assumption)); have HP40 := Kd.R_putg HO146.out ((ji22) : Int) (rd y144 (ji16))) | ((with_reducible refine gate_store (t := 5) (p := 89) rfl ?_); refine store_event (t := 5) (p := 89) (v := ?vo_w41) (w1 := (w39.setCell ⟨go25, ((ji22) : Int).toNat, none⟩ (.int .u8 (rd y144 (ji16))))) ?hg ?ho ?hn ?hr ?_; (case ho => rfl); (case hg => rfl); (case hn => rfl); (case hr => first | (go_simp; done) | (go_simp; rfl)); intro w41 hw; have hg : w39.grownBy w41 (some go25) := (by rw [hw]; exact HP40.2); have hp_ : Kd.R (Kd.int .u8) 5 w41 w.heap.size (fun _ => True) (.slice (some ⟨go25, 0, none⟩) y144.length co35) y153 := (by rw [hw, Ny153.out]; exact HP40.1); clear HP40; have n0_ := Aside0.mk (hp_); have n1_ := Aside0.mk ((by rw [hw]; exact below_set (HB.out) GB25.out : Below w.heap.size w w41)); clear HO146; clear HB; have HO146 := n0_; have HB := n1_; clear n0_ n1_; clear hg hw hp_; have p31 : 0 ≤ ((ji26) : Int) := of_decide_eq_true (by first | (with_reducible assumption) | assumption); have q31 : ((ji26) : Int) < ((y144.length : Int) : Int) := of_decide_eq_true (by first | (with_reducible assumption) | assumption); obtain ⟨hx31_0, hf31_0⟩ := Kd.R_celln 0 HO146.out ((ji26) : Int) p31 q31; replace p31 := eq_true p31; replace q31 := eq_true q31; obtain ⟨hy42_, hz42_⟩ := Kd.R_celln 0 HO146.out ((ji26) : Int) (of_decide_eq_true (by first | (with_reducible assumption) | assumption)) (of_decide_eq_true (by first | (with_reducible assumption) | assumption)); have HP42 := Kd.R_putg HO146.out ((ji26) : Int) (rd y144 (ji19))) | ((with_reducible refine gate_store (t := 5) (p := 95) rfl ?_); refine store_event (t := 5) (p := 95) (v := ?vo_w43) (w1 := (w41.setCell ⟨go25, ((ji26) : Int).toNat, none⟩ (.int .u8 (rd y144 (ji19))))) ?hg ?ho ?hn ?hr ?_; (case ho => rfl); (case hg => rfl); (case hn => rfl); (case hr => first | (go_simp; done) | (go_simp; rfl)); intro w43 hw; have hg : w41.grownBy w43 (some go25) := (by rw [hw]; exact HP42.2); have hp_ : Kd.R (Kd.int .u8) 5 w43 w.heap.size (fun _ => True) (.slice (some ⟨go25, 0, none⟩) y144.length co35) y154 := (by rw [hw, Ny154.out]; exact HP42.1); clear HP42; have n0_ := Aside0.mk (hp_); have n1_ := Aside0.mk ((by rw [hw]; exact below_set (HB.out) GB25.out : Below w.heap.size w w43)); clear HO146; clear HB; have HO146 := n0_; have HB := n1_; clear n0_ n1_; clear hg hw hp_) | ((with_reducible refine gate_callee (f := 12) rfl ?_); refine goesL_ (some 97) rfl rfl Try.func12 (by kernel_rfl) rfl #[.slice A0 l0.length c0] rfl (by (try simp only [List.map_toArray, List.map_cons, List.map_nil]); first | done | rfl | (simp only [List.length_drop, List.length_take]; rfl)) ?_; (with_reducible refine (octets_Sum.calls _ _ l0 t155 _ ?side1 ?side2 A32.out).mono ?_); (case side1 => repeat (first | exact (Kd.C_below HR0.out HB.out) | (with_reducible refine Kd.C_alloc ?_ _) | (with_reducible refine Kd.C_drewN ?_ _) | (with_reducible refine Kd.C_drew ?_))); (case side2 => exact HC0.out); rintro e w' ⟨rfl, ⟨nd, rfl⟩⟩; refine ⟨_, rfl, ?_⟩) | ((with_reducible refine gate_callee (f := 12) rfl ?_); refine goesL_ (some 99) rfl rfl Try.func12 (by kernel_rfl) rfl #[.slice (some ⟨go25, 0, none⟩) y154.length co35] rfl (by (try simp only [List.map_toArray, List.map_cons, List.map_nil]); first | done | (rw [show y154.length = y144.length from (Kd.R_reads' HO146.out).1.symm] <;> rfl) | rfl | (simp only [List.length_drop, List.length_take]; rfl)) ?_; (with_reducible refine (octets_Sum.calls _ _ y154 t156 _ ?side1 ?side2 A33.out).mono ?_); (case side1 => repeat (first | exact (Kd.R_reads' HO146.out).2.2 | (with_reducible refine Kd.C_alloc ?_ _) | (with_reducible refine Kd.C_drewN ?_ _) | (with_reducible refine Kd.C_drew ?_))); (case side2 => rw [show y154.length = y144.length from (Kd.R_reads' HO146.out).1.symm]; exact (Kd.R_reads' HO146.out).2.1); rintro e w' ⟨rfl, ⟨nd, rfl⟩⟩; refine ⟨_, rfl, ?_⟩))
                          go_ret
                          exact ⟨by first | rfl | (simp [errW_none, errW_some] <;> rfl) | (simp only [← hji16, ← hji19, ← hji22, ← hji26]; first | rfl | (simp [errW_none, errW_some] <;> rfl)) | (simp [*, errW_none, errW_some] <;> rfl), by repeat (first | (with_reducible first | exact HB.out | apply below_alloc | apply pw_below_drewN | apply below_drew1) | exact HB.out)⟩
                        · rw [if_neg c28] at H
                          exact absurd H (by simp)
                      · rw [if_neg c27] at H
                        exact absurd H (by simp)
                    · rw [if_neg c24] at H
                      exact absurd H (by simp)
                  · rw [if_neg c23] at H
                    exact absurd H (by simp)
                · rw [if_neg c21] at H
                  exact absurd H (by simp)
              · rw [if_neg c20] at H
                exact absurd H (by simp)
            · rw [if_neg c18] at H
              exact absurd H (by simp)
          · rw [if_neg c17] at H
            exact absurd H (by simp)
        · rw [if_neg c15] at H
          exact absurd H (by simp)

/-- THE ONE PURE STATEMENT of wayfinderlaw02_OctetsTurn: yours. -/
def wayfinderlaw02_OctetsTurn.Pure : Prop := ∀ (l0 : List Int) (a1 : Int) (a2 : Int), l0.length ≤ maxLen → l0.length * 1 ≤ 140737488351232 → (∀ x ∈ l0, (Lit.int .u8 x).wf = true) → (Lit.int .i64 a1).wf = true → (Lit.int .i64 a2).wf = true → ∃ k, wayfinderlaw02_OctetsTurn.f k l0 a1 a2 = some true
theorem wayfinderlaw02_OctetsTurn.walk (P : wayfinderlaw02_OctetsTurn.Pure) (a0 : Option Addr) (len0 cap0 : Nat) (z0 : List Int) (a1 : Int) (a2 : Int) (w : World) (w0 : (a0 = none ∧ len0 = 0 ∧ cap0 = 0 ∧ z0 = []) ∨ ∃ x, a0 = some x ∧ len0 ≤ cap0 ∧ cap0 ≤ maxLen ∧ z0.length = cap0 ∧ (∀ i, i < z0.length → w.cell? (x.add i) = some (.int .u8 (z0.getD i 0))) ∧ ∀ n ∈ z0, (Lit.int .u8 n).wf = true) (y0 : len0 * 1 ≤ 140737488351232) (w1 : (Lit.int .i64 a1).wf = true) (w2 : (Lit.int .i64 a2).wf = true) :
    Calls Try.prog 5 #[.slice a0 len0 cap0, .int .i64 a1, .int .i64 a2] w fun e w' => e = .returned (.bool true) ∧ Below w.heap.size w w' := by
  obtain ⟨l0, rfl, hr0, hm0, hw0, hc0⟩ := ReadsInt.ofRowC w0
  obtain ⟨k, h⟩ := P l0 a1 a2 hm0 y0 hw0 w1 w2
  refine (wayfinderlaw02_OctetsTurn.calls k _ _ l0 a1 a2 true w (Kd.C_of_reads (d := (0 : Int)) (h1 := fun _ => rfl) hr0) hc0 h).mono ?_
  rintro e w' ⟨rfl, hd⟩
  exact ⟨rfl, hd⟩

/-! ### wayfinderref02_power: function 24 -/
def wayfinderref02_power.l0 : Nat → Int → Int → Int → Option (Int)
  | 0, _, _, _ => none
  | k + 1, x0, x3, x4 => if x4 < x0 then (wayfinderref02_power.l0 k x0 (wrap64 (x3 * 256)) (wrap64 (x4 + 1))) else (some x3)
def wayfinderref02_power.f (k : Nat) (a0 : Int) : Option (Int) := wayfinderref02_power.l0 k a0 1 0
theorem wayfinderref02_power.mono_l : ∀ k, (∀ y0 y1 y2, LeO (wayfinderref02_power.l0 k y0 y1 y2) (wayfinderref02_power.l0 (k + 1) y0 y1 y2))
  | 0 => fun _ _ _ r h => by simp [wayfinderref02_power.l0] at h
  | k + 1 => by
    have ih0 := wayfinderref02_power.mono_l k
    · intro y0 y1 y2
      unfold wayfinderref02_power.l0
      repeat' first
      | (with_reducible exact ih0 _ _ _)
      | (with_reducible exact LeO.refl _)
      | (with_reducible exact LeO.none _)
      | (with_reducible refine LeO.ite ?_ ?_)
      | (with_reducible refine LeO.bind ?_ (fun _ => ?_))
      | exact ih0 _ _ _
      | exact LeO.none _
      | refine LeO.ite ?_ ?_
      | refine LeO.bind ?_ (fun _ => ?_)
theorem wayfinderref02_power.mono : ∀ a0 k, LeO (wayfinderref02_power.f k a0) (wayfinderref02_power.f (k + 1) a0) := by
  intro a0 k
  have ih0 := wayfinderref02_power.mono_l k
  unfold wayfinderref02_power.f
  repeat' first
      | (with_reducible exact ih0 _ _ _)
      | (with_reducible exact LeO.refl _)
      | (with_reducible exact LeO.none _)
      | (with_reducible refine LeO.ite ?_ ?_)
      | (with_reducible refine LeO.bind ?_ (fun _ => ?_))
      | exact ih0 _ _ _
      | exact LeO.none _
      | refine LeO.ite ?_ ?_
      | refine LeO.bind ?_ (fun _ => ?_)
set_option maxHeartbeats 8000000 in
set_option maxRecDepth 100000 in
theorem wayfinderref02_power.calls (k : Nat) (a0 : Int) (r : Int) (w : World) (h : wayfinderref02_power.f k a0 = some r) :
    Calls Try.prog 24 #[.int .i64 a0] w fun e w' => e = .returned (.int .i64 r) ∧ Drawn0 w w' := by
  have H : (wayfinderref02_power.l0 k a0 1 0) = some r := h
  clear h
  have H' := Aside0.mk H
  clear H
  go_enter Try.func24, Try.ntmps24
  go_wp2
  go_loopg [3, 4] k (fun kq v3 v4 w' => ∃ (x3_1 : Int) (x4_1 : Int), v3 = .int .i64 x3_1 ∧ v4 = .int .i64 x4_1 ∧ Aside0 (wayfinderref02_power.l0 kq a0 x3_1 x4_1 = some r) ∧ Aside0 (kq ≤ k) ∧ Drawn0 w w')
  case atStart => exact ⟨(1), (0), (by first | rfl | (simp; done) | (simp [*]; done)), (by first | rfl | (simp; done) | (simp [*]; done)), H', ⟨Nat.le_refl _⟩, by repeat (first | exact Drawn0.refl _ | apply Drawn0.step)⟩
  case round =>
    clear H'
    obtain ⟨x3_1, x4_1, rfl, rfl, HA, HK1, ⟨m1, rfl⟩⟩ := hrel
    cases gk with
    | zero => exact absurd HA.out (by simp [wayfinderref02_power.l0])
    | succ k1 =>
      have H := HA.out
      clear HA
      simp only [wayfinderref02_power.l0] at H
      by_cases c2 : x4_1 < a0
      · rw [if_pos c2] at H
        have c2b0 : decide (x4_1 < a0) = true := decide_eq_true c2
        clear c2
        have H' := Aside0.mk H
        clear H
        go_wp2
        go_roundg k1
        case measure => have := HK1.out; omega
        case rel => exact ⟨(wrap64 (x3_1 * 256)), (wrap64 (x4_1 + 1)), (by first | rfl | (simp; done) | (simp [*]; done)), (by first | rfl | (simp; done) | (simp [*]; done)), H', ⟨by have := HK1.out; omega⟩, by repeat (first | exact Drawn0.refl _ | apply Drawn0.step)⟩
      · rw [if_neg c2] at H
        have c2b0 : decide (x4_1 < a0) = false := decide_eq_false c2
        clear c2
        obtain rfl := Option.some.inj H
        go_wp2
        go_ret
        exact ⟨by first | rfl | (simp; done) | (simp [*]; done), by repeat (first | exact Drawn0.refl _ | apply Drawn0.step)⟩

end Go.Proofs.Ytjcjkfiebmbdmaa.All
