/- Contracts of Go functions that this seat comes to, each with a plain function that tells its answers; conditions: those that each contract names. Written by a program of this session (wip/print) over the print words. -/
import Derived.Test.YtjnbnjlkljpbeaaAllx0
import Derived.Test.YtjnbnjlkljpbeaaAllx6
namespace Go.Proofs.Ytjnbnjlkljpbeaa.All
open Go.RowKit Go.Proofs.YtjnbnjlkljpbeaaW.PrintWords Go.Proofs.YtjnbnjlkljpbeaaW.PrintLast Go.Proofs.YtjnbnjlkljpbeaaW.PrintMore
attribute [local go_sem] max2_int min2_int max_two min_two max_three min_three max_four min_four   -- for this text's walks alone
set_option linter.unusedVariables false
set_option linter.unusedSimpArgs false

/-! ### octets_Get: function 34 -/
def octets_Get.l0 : Nat → Int → List Int → Int → Int → Option (Int × Int)
  | 0, _, _, _, _ => none
  | k + 1, x6, x20, x21, x22 => if x22 < x21 then (if 0 ≤ x22 then (if x22 < (x20.length : Int) then (octets_Get.l0 k (Go.bits .or .u32 ((x6 * 256) % 4294967296) ((rd x20 x22) % 4294967296)) x20 x21 (wrap64 (x22 + 1))) else (none)) else (none)) else (some (wrap64 (x6), 0))
def octets_Get.f (k : Nat) (l0 : List Int) (a1 : Int) : Option (Int × Int) := (octets_may.f a1).bind fun t219 => (if t219 = true then (if (l0.length : Int) < a1 then (some (0, 3)) else (if 0 ≤ a1 then (if a1 ≤ (l0.length : Int) then (octets_Get.l0 k 0 (l0.take (a1 : Int).toNat) ((l0.take (a1 : Int).toNat).length : Int) 0) else (none)) else (none))) else (some (0, 1)))
theorem octets_Get.mono_l : ∀ k, (∀ y0 y1 y2 y3, LeO (octets_Get.l0 k y0 y1 y2 y3) (octets_Get.l0 (k + 1) y0 y1 y2 y3))
  | 0 => fun _ _ _ _ r h => by simp [octets_Get.l0] at h
  | k + 1 => by
    have ih0 := octets_Get.mono_l k
    · intro y0 y1 y2 y3
      unfold octets_Get.l0
      repeat' first
      | (with_reducible exact ih0 _ _ _ _)
      | (with_reducible exact LeO.refl _)
      | (with_reducible exact LeO.none _)
      | (with_reducible refine LeO.ite ?_ ?_)
      | (with_reducible refine LeO.bind ?_ (fun _ => ?_))
      | exact ih0 _ _ _ _
      | exact LeO.none _
      | refine LeO.ite ?_ ?_
      | refine LeO.bind ?_ (fun _ => ?_)
theorem octets_Get.mono : ∀ a0 a1 k, LeO (octets_Get.f k a0 a1) (octets_Get.f (k + 1) a0 a1) := by
  intro a0 a1 k
  have ih0 := octets_Get.mono_l k
  unfold octets_Get.f
  repeat' first
      | (with_reducible exact ih0 _ _ _ _)
      | (with_reducible exact LeO.refl _)
      | (with_reducible exact LeO.none _)
      | (with_reducible refine LeO.ite ?_ ?_)
      | (with_reducible refine LeO.bind ?_ (fun _ => ?_))
      | exact ih0 _ _ _ _
      | exact LeO.none _
      | refine LeO.ite ?_ ?_
      | refine LeO.bind ?_ (fun _ => ?_)
set_option maxHeartbeats 8000000 in
set_option maxRecDepth 100000 in
theorem octets_Get.calls (k : Nat) (A0 : Option Addr) (c0 : Nat) (l0 : List Int) (a1 : Int) (r1 : Int) (r2 : Int) (w : World) (hr0 : Kd.C (Kd.int .u8) w A0 l0.length l0) (hc0 : l0.length ≤ c0) (h : octets_Get.f k l0 a1 = some (r1, r2)) :
    Calls Try.prog 34 #[.slice A0 l0.length c0, .int .i64 a1] w fun e w' => e = .returned (.tuple #[.int .i64 r1, .int .i64 r2]) ∧ Drawn0 w w' := by
  have HR0 := Aside0.mk hr0
  have HC0 := Aside0.mk hc0
  clear hr0 hc0
  have H : ((octets_may.f a1).bind fun t219 => (if t219 = true then (if (l0.length : Int) < a1 then (some (0, 3)) else (if 0 ≤ a1 then (if a1 ≤ (l0.length : Int) then (octets_Get.l0 k 0 (l0.take (a1 : Int).toNat) ((l0.take (a1 : Int).toNat).length : Int) 0) else (none)) else (none))) else (some (0, 1)))) = some (r1, r2) := h
  clear h
  replace H := Option.bind_eq_some_iff.mp H
  obtain ⟨t219, A30, H⟩ := H
  replace H : (if t219 = true then (if (l0.length : Int) < a1 then (some (0, 3)) else (if 0 ≤ a1 then (if a1 ≤ (l0.length : Int) then (octets_Get.l0 k 0 (l0.take (a1 : Int).toNat) ((l0.take (a1 : Int).toNat).length : Int) 0) else (none)) else (none))) else (some (0, 1))) = some (r1, r2) := H
  have A3 := Aside0.mk A30
  clear A30
  by_cases c4 : t219 = true
  · subst c4
    have H1 : (if (l0.length : Int) < a1 then (some (0, 3)) else (if 0 ≤ a1 then (if a1 ≤ (l0.length : Int) then (octets_Get.l0 k 0 (l0.take (a1 : Int).toNat) ((l0.take (a1 : Int).toNat).length : Int) 0) else (none)) else (none))) = some (r1, r2) := by rw [if_pos rfl] at H; exact H
    clear H
    have H := H1
    clear H1
    by_cases c5 : (l0.length : Int) < a1
    · rw [if_pos c5] at H
      have c5b0 : decide ((l0.length : Int) < a1) = true := decide_eq_true c5
      clear c5
      simp only [Option.some.injEq, Prod.mk.injEq] at H
      obtain ⟨rfl, rfl⟩ := H
      go_enter Try.func34, Try.ntmps34
      go_wp2_with (first | ((with_reducible refine gate_callee (f := 37) rfl ?_); refine goesL_ (some 11) rfl rfl Try.func37 (by kernel_rfl) rfl #[.int .i64 a1] rfl (by (try simp only [List.map_toArray, List.map_cons, List.map_nil]); first | done | rfl | (simp only [List.length_drop, List.length_take]; rfl)) ?_; (with_reducible refine (octets_may.calls a1 true _ A3.out).mono ?_); rintro e w' ⟨rfl, ⟨nd, rfl⟩⟩; refine ⟨_, rfl, ?_⟩))
      go_ret2
      exact ⟨by first | rfl | (simp; done) | (simp [*]; done), by repeat (first | exact Drawn0.refl _ | apply Drawn0.step)⟩
    · rw [if_neg c5] at H
      have c5b0 : decide ((l0.length : Int) < a1) = false := decide_eq_false c5
      clear c5
      by_cases c6 : 0 ≤ a1
      · rw [if_pos c6] at H
        have c6b0 := eq_true c6
        have c6b1 : decide (0 ≤ a1) = true := decide_eq_true c6
        clear c6
        by_cases c7 : a1 ≤ (l0.length : Int)
        · rw [if_pos c7] at H
          have c7b0 := eq_true c7
          have c7b1 : decide (a1 ≤ (l0.length : Int)) = true := decide_eq_true c7
          clear c7
          have H' := Aside0.mk H
          clear H
          go_enter Try.func34, Try.ntmps34
          go_wp2_with (first | ((with_reducible refine gate_callee (f := 37) rfl ?_); refine goesL_ (some 11) rfl rfl Try.func37 (by kernel_rfl) rfl #[.int .i64 a1] rfl (by (try simp only [List.map_toArray, List.map_cons, List.map_nil]); first | done | rfl | (simp only [List.length_drop, List.length_take]; rfl)) ?_; (with_reducible refine (octets_may.calls a1 true _ A3.out).mono ?_); rintro e w' ⟨rfl, ⟨nd, rfl⟩⟩; refine ⟨_, rfl, ?_⟩; obtain ⟨i08, hi08, _, hsz8, _⟩ := info_parts info5; obtain ⟨hcut8, hA8, hC8⟩ := print_take_of (P := Try.prog) (Value.int .u8) 0 36 5 .i64 Try.underlying36 hi08 hsz8 A0 c0 l0 a1 (of_decide_eq_true (by first | (with_reducible assumption) | assumption)) (of_decide_eq_true (by first | (with_reducible assumption) | assumption)) HC0.out; have HR220 := Aside0.mk (Kd.C_of_reads (h1 := fun _ => rfl) (hA8 _ (Kd.reads_of_C HR0.out))); have HC220 := Aside0.mk hC8; clear hA8 hC8 hi08 hsz8))
          have HMX_ := Aside0.mk (show max a1 0 = ((l0.take (a1 : Int).toNat).length : Int) by have h1 : 0 ≤ a1 := of_decide_eq_true (by assumption); have h2 : a1 ≤ (l0.length : Int) := of_decide_eq_true (by assumption); rw [List.length_take]; omega)
          go_loopg [6, 22] k (fun kq v6 v22 w' => ∃ (x6_1 : Int) (x22_1 : Int), v6 = .int .u32 x6_1 ∧ v22 = .int .i64 x22_1 ∧ Aside0 (octets_Get.l0 kq x6_1 (l0.take (a1 : Int).toNat) ((l0.take (a1 : Int).toNat).length : Int) x22_1 = some (r1, r2)) ∧ Aside0 (kq ≤ k) ∧ Drawn0 w w')
          case atStart => exact ⟨(0), (0), (by first | rfl | (simp; done) | (simp [*]; done)), (by first | rfl | (simp; done) | (simp [*]; done)), H', ⟨Nat.le_refl _⟩, by repeat (first | exact Drawn0.refl _ | apply Drawn0.step)⟩
          case round =>
            clear H'
            try clear p2
            try clear c3
            try clear c4
            try clear c5
            try clear c5b0
            try clear c6
            try clear c6b0
            try clear c6b1
            try clear c7
            try clear c7b0
            try clear c7b1
            obtain ⟨x6_1, x22_1, rfl, rfl, HA, HK1, ⟨m1, rfl⟩⟩ := hrel
            cases gk with
            | zero => exact absurd HA.out (by simp [octets_Get.l0])
            | succ k1 =>
              have H := HA.out
              clear HA
              simp only [octets_Get.l0] at H
              by_cases c9 : x22_1 < ((l0.take (a1 : Int).toNat).length : Int)
              · rw [if_pos c9] at H
                have c9b0 : decide (x22_1 < ((l0.take (a1 : Int).toNat).length : Int)) = true := decide_eq_true c9
                (try (have c9m : decide (x22_1 < max a1 0) = true := by rw [HMX_.out]; exact c9b0))
                (try (have c9p : (x22_1 < max a1 0) = True := eq_true (of_decide_eq_true c9m)))
                clear c9
                by_cases c10 : 0 ≤ x22_1
                · rw [if_pos c10] at H
                  have c10b0 : decide (0 ≤ x22_1) = true := decide_eq_true c10
                  clear c10
                  by_cases c11 : x22_1 < ((l0.take (a1 : Int).toNat).length : Int)
                  · rw [if_pos c11] at H
                    have c11b0 : decide (x22_1 < ((l0.take (a1 : Int).toNat).length : Int)) = true := decide_eq_true c11
                    (try (have c11m : decide (x22_1 < max a1 0) = true := by rw [HMX_.out]; exact c11b0))
                    (try (have c11p : (x22_1 < max a1 0) = True := eq_true (of_decide_eq_true c11m)))
                    clear c11
                    have H' := Aside0.mk H
                    clear H
                    have p221 : 0 ≤ (x22_1 : Int) := of_decide_eq_true (by first | (with_reducible assumption) | assumption)
                    have q221 : x22_1 < ((l0.take (a1 : Int).toNat).length : Int) := of_decide_eq_true (by first | (with_reducible assumption) | assumption)
                    obtain ⟨ad221, e221, hx221_0⟩ := Kd.at_int HR220.out x22_1 p221 q221
                    cases e221
                    replace p221 := eq_true p221
                    replace q221 := eq_true q221
                    go_wp2
                    go_roundg k1
                    case measure => have := HK1.out; omega
                    case rel => exact ⟨(Go.bits .or .u32 ((x6_1 * 256) % 4294967296) ((rd (l0.take (a1 : Int).toNat) x22_1) % 4294967296)), (wrap64 (x22_1 + 1)), (by first | rfl | (simp; done) | (simp [*]; done)), (by first | rfl | (simp; done) | (simp [*]; done)), H', ⟨by have := HK1.out; omega⟩, by repeat (first | exact Drawn0.refl _ | apply Drawn0.step)⟩
                  · rw [if_neg c11] at H
                    exact absurd H (by simp)
                · rw [if_neg c10] at H
                  exact absurd H (by simp)
              · rw [if_neg c9] at H
                have c9b0 : decide (x22_1 < ((l0.take (a1 : Int).toNat).length : Int)) = false := decide_eq_false c9
                (try (have c9m : decide (x22_1 < max a1 0) = false := by rw [HMX_.out]; exact c9b0))
                (try (have c9p : (x22_1 < max a1 0) = False := eq_false (of_decide_eq_false c9m)))
                clear c9
                simp only [Option.some.injEq, Prod.mk.injEq] at H
                obtain ⟨rfl, rfl⟩ := H
                go_wp2
                go_ret2
                exact ⟨by first | rfl | (simp; done) | (simp [*]; done), by repeat (first | exact Drawn0.refl _ | apply Drawn0.step)⟩
        · rw [if_neg c7] at H
          exact absurd H (by simp)
      · rw [if_neg c6] at H
        exact absurd H (by simp)
  · replace c4 := Bool.eq_false_iff.mpr c4
    subst c4
    have H1 : (some (0, 1)) = some (r1, r2) := by rw [if_neg (show ¬ (false = true) by decide)] at H; exact H
    clear H
    have H := H1
    clear H1
    simp only [Option.some.injEq, Prod.mk.injEq] at H
    obtain ⟨rfl, rfl⟩ := H
    go_enter Try.func34, Try.ntmps34
    go_wp2_with (first | ((with_reducible refine gate_callee (f := 37) rfl ?_); refine goesL_ (some 11) rfl rfl Try.func37 (by kernel_rfl) rfl #[.int .i64 a1] rfl (by (try simp only [List.map_toArray, List.map_cons, List.map_nil]); first | done | rfl | (simp only [List.length_drop, List.length_take]; rfl)) ?_; (with_reducible refine (octets_may.calls a1 false _ A3.out).mono ?_); rintro e w' ⟨rfl, ⟨nd, rfl⟩⟩; refine ⟨_, rfl, ?_⟩))
    go_ret2
    exact ⟨by first | rfl | (simp; done) | (simp [*]; done), by repeat (first | exact Drawn0.refl _ | apply Drawn0.step)⟩

end Go.Proofs.Ytjnbnjlkljpbeaa.All
