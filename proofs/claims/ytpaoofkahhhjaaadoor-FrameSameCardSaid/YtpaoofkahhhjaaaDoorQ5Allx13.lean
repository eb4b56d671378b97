/- Contracts of Go functions that this seat comes to, each with a plain function that tells its answers; conditions: those that each contract names. Written by a program of this session (wip/print) over the print words. -/
import Derived.Test.YtpaoofkahhhjaaaDoorQ5Allx0
import Derived.Test.YtpaoofkahhhjaaaDoorQ5Allx6
import Derived.Test.YtpaoofkahhhjaaaDoorQ5Allx2
namespace Go.Proofs.YtpaoofkahhhjaaaDoor.All
open Go.RowKit Go.Proofs.YtpaoofkahhhjaaaDoorW.PrintWords Go.Proofs.YtpaoofkahhhjaaaDoorW.PrintLast Go.Proofs.YtpaoofkahhhjaaaDoorW.PrintMore
attribute [local go_sem] max2_int min2_int max_two min_two max_three min_three max_four min_four
set_option linter.unusedVariables false
set_option linter.unusedSimpArgs false
def octets_Get.l0 : Nat → Int → List Int → Int → Int → Option (Int × Int)
 | 0, _, _, _, _ => none
 | k + 1, x6, x20, x21, x22 => if x22 < x21 then (if 0 ≤ x22 then (if x22 < (x20.length : Int) then (octets_Get.l0 k (Go.bits .or .u32 ((x6 * 256) % 4294967296) ((rd x20 x22) % 4294967296)) x20 x21 (wrap64 (x22 + 1))) else (none)) else (none)) else (some (wrap64 (x6), 0))
def octets_Get.f (k : Nat) (l0 : List Int) (a1 : Int) : Option (Int × Int) := (octets_may.f a1).bind fun t260 => (if t260 = true then (if (l0.length : Int) < a1 then (some (0, 3)) else (if 0 ≤ a1 then (if a1 ≤ (l0.length : Int) then (octets_Get.l0 k 0 (l0.take (a1 : Int).toNat) ((l0.take (a1 : Int).toNat).length : Int) 0) else (none)) else (none))) else (some (0, 1)))
theorem octets_Get.mono_l : ∀ k, (∀ y0 y1 y2 y3, LeO (octets_Get.l0 k y0 y1 y2 y3) (octets_Get.l0 (k + 1) y0 y1 y2 y3))
 | 0 => fun _ _ _ _ r h => by simp [octets_Get.l0] at h
 | k + 1 => by
  have ih0 := octets_Get.mono_l k
  ·intro y0 y1 y2 y3
   unfold octets_Get.l0
   repeat' first
   | (with_reducible exact ih0 _ _ _ _)
   | (with_reducible exact LeO.refl _)
   | (with_reducible exact LeO.none _)
   | (with_reducible refine LeO.ite ?_ ?_)
   | (with_reducible refine LeO.bind ?_ (fun _ => ?_))
   | exact ih0 _ _ _ _
   | exact LeO.none _
   | refine LeO.ite ?_ ?_
   | refine LeO.bind ?_ (fun _ => ?_)
theorem octets_Get.mono : ∀ a0 a1 k, LeO (octets_Get.f k a0 a1) (octets_Get.f (k + 1) a0 a1) := by
 intro a0 a1 k
 have ih0 := octets_Get.mono_l k
 unfold octets_Get.f
 repeat' first
   | (with_reducible exact ih0 _ _ _ _)
   | (with_reducible exact LeO.refl _)
   | (with_reducible exact LeO.none _)
   | (with_reducible refine LeO.ite ?_ ?_)
   | (with_reducible refine LeO.bind ?_ (fun _ => ?_))
   | exact ih0 _ _ _ _
   | exact LeO.none _
   | refine LeO.ite ?_ ?_
   | refine LeO.bind ?_ (fun _ => ?_)
set_option maxHeartbeats 8000000 in
set_option maxRecDepth 100000 in
theorem octets_Get.calls (k : Nat) (A0 : Option Addr) (c0 : Nat) (l0 : List Int) (a1 : Int) (r1 : Int) (r2 : Int) (w : World) (hr0 : Kd.C (Kd.int .u8) w A0 l0.length l0) (hc0 : l0.length ≤ c0) (h : octets_Get.f k l0 a1 = some (r1, r2)) :
  Calls Tryd.prog 45 #[.slice A0 l0.length c0, .int .i64 a1] w fun e w' => e = .returned (.tuple #[.int .i64 r1, .int .i64 r2]) ∧ Drawn0 w w' := by
 have HR0 := Aside0.mk hr0
 have HC0 := Aside0.mk hc0
 clear hr0 hc0
 have H : ((octets_may.f a1).bind fun t260 => (if t260 = true then (if (l0.length : Int) < a1 then (some (0, 3)) else (if 0 ≤ a1 then (if a1 ≤ (l0.length : Int) then (octets_Get.l0 k 0 (l0.take (a1 : Int).toNat) ((l0.take (a1 : Int).toNat).length : Int) 0) else (none)) else (none))) else (some (0, 1)))) = some (r1, r2) := h
 clear h
 replace H := Option.bind_eq_some_iff.mp H
 obtain ⟨t260, A30, H⟩ := H
 replace H : (if t260 = true then (if (l0.length : Int) < a1 then (some (0, 3)) else (if 0 ≤ a1 then (if a1 ≤ (l0.length : Int) then (octets_Get.l0 k 0 (l0.take (a1 : Int).toNat) ((l0.take (a1 : Int).toNat).length : Int) 0) else (none)) else (none))) else (some (0, 1))) = some (r1, r2) := H
 have A3 := Aside0.mk A30
 clear A30
 by_cases c4 : t260 = true
 ·subst c4
  have H1 : (if (l0.length : Int) < a1 then (some (0, 3)) else (if 0 ≤ a1 then (if a1 ≤ (l0.length : Int) then (octets_Get.l0 k 0 (l0.take (a1 : Int).toNat) ((l0.take (a1 : Int).toNat).length : Int) 0) else (none)) else (none))) = some (r1, r2) := by rw [if_pos rfl] at H; exact H
  clear H
  have H := H1
  clear H1
  by_cases c5 : (l0.length : Int) < a1
  ·rw [if_pos c5] at H
   have c5b0 : decide ((l0.length : Int) < a1) = true := decide_eq_true c5
   clear c5
   simp only [Option.some.injEq, Prod.mk.injEq] at H
   obtain ⟨rfl, rfl⟩ := H
   go_enter Tryd.func45, Tryd.ntmps45
   go_wp2_with (first | ((with_reducible refine qqr (f := 47) rfl ?_); refine goesL_ (some 11) rfl rfl Tryd.func47 (by kernel_rfl) rfl #[.int .i64 a1] rfl (by (try simp only [List.map_toArray, List.map_cons, List.map_nil]); first | done | rfl | (simp only [List.length_drop, List.length_take]; rfl)) ?_; (with_reducible refine (octets_may.calls a1 true _ A3.out).mono ?_); rintro e w' ⟨rfl, ⟨nd, rfl⟩⟩; refine ⟨_, rfl, ?_⟩))
   go_ret2
   exact ⟨by first | rfl | (simp; done) | (simp [*]; done), by repeat (first | exact Drawn0.refl _ | apply Drawn0.step)⟩
  ·rw [if_neg c5] at H
   have c5b0 : decide ((l0.length : Int) < a1) = false := decide_eq_false c5
   clear c5
   by_cases c6 : 0 ≤ a1
   ·rw [if_pos c6] at H
    have c6b0 := eq_true c6
    have c6b1 : decide (0 ≤ a1) = true := decide_eq_true c6
    clear c6
    by_cases c7 : a1 ≤ (l0.length : Int)
    ·rw [if_pos c7] at H
     have c7b0 := eq_true c7
     have c7b1 : decide (a1 ≤ (l0.length : Int)) = true := decide_eq_true c7
     clear c7
     have H' := Aside0.mk H
     clear H
     go_enter Tryd.func45, Tryd.ntmps45
     go_wp2_with (first | ((with_reducible refine qqr (f := 47) rfl ?_); refine goesL_ (some 11) rfl rfl Tryd.func47 (by kernel_rfl) rfl #[.int .i64 a1] rfl (by (try simp only [List.map_toArray, List.map_cons, List.map_nil]); first | done | rfl | (simp only [List.length_drop, List.length_take]; rfl)) ?_; (with_reducible refine (octets_may.calls a1 true _ A3.out).mono ?_); rintro e w' ⟨rfl, ⟨nd, rfl⟩⟩; refine ⟨_, rfl, ?_⟩; obtain ⟨i08, hi08, _, hsz8, _⟩ := info_parts info5; obtain ⟨hcut8, hA8, hC8⟩ := print_take_of (P := Tryd.prog) (Value.int .u8) 0 31 5 .i64 Tryd.underlying31 hi08 hsz8 A0 c0 l0 a1 (of_decide_eq_true (by first | (with_reducible assumption) | assumption)) (of_decide_eq_true (by first | (with_reducible assumption) | assumption)) HC0.out; have HR261 := Aside0.mk (Kd.C_of_reads (h1 := fun _ => rfl) (hA8 _ (Kd.reads_of_C HR0.out))); have HC261 := Aside0.mk hC8; clear hA8 hC8 hi08 hsz8))
     have HMX_ := Aside0.mk (show max a1 0 = ((l0.take (a1 : Int).toNat).length : Int) by have h1 : 0 ≤ a1 := of_decide_eq_true (by assumption); have h2 : a1 ≤ (l0.length : Int) := of_decide_eq_true (by assumption); rw [List.length_take]; omega)
     go_loopg [6, 22] k (fun kq v6 v22 w' => ∃ (x6_1 : Int) (Q1 : Int), v6 = .int .u32 x6_1 ∧ v22 = .int .i64 Q1 ∧ Aside0 (octets_Get.l0 kq x6_1 (l0.take (a1 : Int).toNat) ((l0.take (a1 : Int).toNat).length : Int) Q1 = some (r1, r2)) ∧ Aside0 (kq ≤ k) ∧ Drawn0 w w')
     case atStart => exact ⟨(0), (0), (by first | rfl | (simp; done) | (simp [*]; done)), (by first | rfl | (simp; done) | (simp [*]; done)), H', ⟨Nat.le_refl _⟩, by repeat (first | exact Drawn0.refl _ | apply Drawn0.step)⟩
     case round =>
      clear H'
      try clear p2
      try clear c4
      try clear c5
      try clear c5b0
      try clear c6
      try clear c6b0
      try clear c6b1
      try clear c7
      try clear c7b0
      try clear c7b1
      obtain ⟨x6_1, Q1, rfl, rfl, HA, HK1, ⟨m1, rfl⟩⟩ := hrel
      cases gk with
      | zero => exact absurd HA.out (by simp [octets_Get.l0])
      | succ k1 =>
       have H := HA.out
       clear HA
       simp only [octets_Get.l0] at H
       by_cases c9 : Q1 < ((l0.take (a1 : Int).toNat).length : Int)
       ·rw [if_pos c9] at H
        have c9b0 : decide (Q1 < ((l0.take (a1 : Int).toNat).length : Int)) = true := decide_eq_true c9
        (try (have c9m : decide (Q1 < max a1 0) = true := by rw [HMX_.out]; exact c9b0))
        (try (have c9p : (Q1 < max a1 0) = True := eq_true (of_decide_eq_true c9m)))
        clear c9
        by_cases c10 : 0 ≤ Q1
        ·rw [if_pos c10] at H
         have c10b0 : decide (0 ≤ Q1) = true := decide_eq_true c10
         clear c10
         by_cases c11 : Q1 < ((l0.take (a1 : Int).toNat).length : Int)
         ·rw [if_pos c11] at H
          have c11b0 : decide (Q1 < ((l0.take (a1 : Int).toNat).length : Int)) = true := decide_eq_true c11
          (try (have c11m : decide (Q1 < max a1 0) = true := by rw [HMX_.out]; exact c11b0))
          (try (have c11p : (Q1 < max a1 0) = True := eq_true (of_decide_eq_true c11m)))
          clear c11
          have H' := Aside0.mk H
          clear H
          have p262 : 0 ≤ (Q1 : Int) := of_decide_eq_true (by first | (with_reducible assumption) | assumption)
          have q262 : Q1 < ((l0.take (a1 : Int).toNat).length : Int) := of_decide_eq_true (by first | (with_reducible assumption) | assumption)
          obtain ⟨ad262, e262, hx262_0⟩ := Kd.at_int HR261.out Q1 p262 q262
          cases e262
          replace p262 := eq_true p262
          replace q262 := eq_true q262
          go_wp2
          go_roundg k1
          case measure => have := HK1.out; omega
          case rel => exact ⟨(Go.bits .or .u32 ((x6_1 * 256) % 4294967296) ((rd (l0.take (a1 : Int).toNat) Q1) % 4294967296)), (wrap64 (Q1 + 1)), (by first | rfl | (simp; done) | (simp [*]; done)), (by first | rfl | (simp; done) | (simp [*]; done)), H', ⟨by have := HK1.out; omega⟩, by repeat (first | exact Drawn0.refl _ | apply Drawn0.step)⟩
         ·rw [if_neg c11] at H
          exact absurd H (by simp)
        ·rw [if_neg c10] at H
         exact absurd H (by simp)
       ·rw [if_neg c9] at H
        have c9b0 : decide (Q1 < ((l0.take (a1 : Int).toNat).length : Int)) = false := decide_eq_false c9
        (try (have c9m : decide (Q1 < max a1 0) = false := by rw [HMX_.out]; exact c9b0))
        (try (have c9p : (Q1 < max a1 0) = False := eq_false (of_decide_eq_false c9m)))
        clear c9
        simp only [Option.some.injEq, Prod.mk.injEq] at H
        obtain ⟨rfl, rfl⟩ := H
        go_wp2
        go_ret2
        exact ⟨by first | rfl | (simp; done) | (simp [*]; done), by repeat (first | exact Drawn0.refl _ | apply Drawn0.step)⟩
    ·rw [if_neg c7] at H
     exact absurd H (by simp)
   ·rw [if_neg c6] at H
    exact absurd H (by simp)
 ·replace c4 := Bool.eq_false_iff.mpr c4
  subst c4
  have H1 : (some (0, 1)) = some (r1, r2) := by rw [if_neg (show ¬ (false = true) by decide)] at H; exact H
  clear H
  have H := H1
  clear H1
  simp only [Option.some.injEq, Prod.mk.injEq] at H
  obtain ⟨rfl, rfl⟩ := H
  go_enter Tryd.func45, Tryd.ntmps45
  go_wp2_with (first | ((with_reducible refine qqr (f := 47) rfl ?_); refine goesL_ (some 11) rfl rfl Tryd.func47 (by kernel_rfl) rfl #[.int .i64 a1] rfl (by (try simp only [List.map_toArray, List.map_cons, List.map_nil]); first | done | rfl | (simp only [List.length_drop, List.length_take]; rfl)) ?_; (with_reducible refine (octets_may.calls a1 false _ A3.out).mono ?_); rintro e w' ⟨rfl, ⟨nd, rfl⟩⟩; refine ⟨_, rfl, ?_⟩))
  go_ret2
  exact ⟨by first | rfl | (simp; done) | (simp [*]; done), by repeat (first | exact Drawn0.refl _ | apply Drawn0.step)⟩
def octets_GetAll.l0 : Nat → List Int → List Int → List Int → List Int → Int → Int → Option (List Int × Int × Int)
 | 0, _, _, _, _, _, _ => none
 | k + 1, x0, x7, x8, x14, x15, x16 => if x16 < x15 then (if 0 ≤ x16 then (if x16 < (x14.length : Int) then ((octets_Get.f k x8 (rd x14 x16)).bind fun bt264 => (if bt264.2 = 0 then (if x7.length < 17592186044416 then (if 0 ≤ (rd x14 x16) then (if (rd x14 x16) ≤ (x8.length : Int) then (octets_GetAll.l0 k x0 (x7 ++ [bt264.1]) (x8.drop ((rd x14 x16) : Int).toNat) x14 x15 (wrap64 (x16 + 1))) else (none)) else (none)) else (none)) else (some (([] : List Int), 0, bt264.2)))) else (none)) else (none)) else (some (x7, wrap64 ((x0.length : Int) - (x8.length : Int)), 0))
def octets_GetAll.f (k : Nat) (l0 : List Int) (l1 : List Int) : Option (List Int × Int × Int) := octets_GetAll.l0 k l0 ([] : List Int) l0 l1 (l1.length : Int) 0
theorem octets_GetAll.mono_l : ∀ k, (∀ y0 y1 y2 y3 y4 y5, LeO (octets_GetAll.l0 k y0 y1 y2 y3 y4 y5) (octets_GetAll.l0 (k + 1) y0 y1 y2 y3 y4 y5))
 | 0 => fun _ _ _ _ _ _ r h => by simp [octets_GetAll.l0] at h
 | k + 1 => by
  have ih0 := octets_GetAll.mono_l k
  ·intro y0 y1 y2 y3 y4 y5
   unfold octets_GetAll.l0
   repeat' first
   | (with_reducible exact ih0 _ _ _ _ _ _)
   | (with_reducible exact octets_Get.mono _ _ _)
   | (with_reducible exact LeO.refl _)
   | (with_reducible exact LeO.none _)
   | (with_reducible refine LeO.ite ?_ ?_)
   | (with_reducible refine LeO.bind ?_ (fun _ => ?_))
   | exact ih0 _ _ _ _ _ _
   | exact octets_Get.mono _ _ _
   | exact LeO.none _
   | refine LeO.ite ?_ ?_
   | refine LeO.bind ?_ (fun _ => ?_)
theorem octets_GetAll.mono : ∀ a0 a1 k, LeO (octets_GetAll.f k a0 a1) (octets_GetAll.f (k + 1) a0 a1) := by
 intro a0 a1 k
 have ih0 := octets_GetAll.mono_l k
 unfold octets_GetAll.f
 repeat' first
   | (with_reducible exact ih0 _ _ _ _ _ _)
   | (with_reducible exact octets_Get.mono _ _ _)
   | (with_reducible exact LeO.refl _)
   | (with_reducible exact LeO.none _)
   | (with_reducible refine LeO.ite ?_ ?_)
   | (with_reducible refine LeO.bind ?_ (fun _ => ?_))
   | exact ih0 _ _ _ _ _ _
   | exact octets_Get.mono _ _ _
   | exact LeO.none _
   | refine LeO.ite ?_ ?_
   | refine LeO.bind ?_ (fun _ => ?_)
def octets_GetAll.T9 : Bool × List (List Nat × List Nat) := (true, [([], []), ([], []), ([1], [1]), ([0, 2], [0, 2]), ([], []), ([], []), ([4, 5], [4, 5]), ([3, 3, 0, 1, 2, 3], [0, 3]), ([6, 7, 0, 1, 2, 3, 4, 5, 6, 7], [4, 6])])
def octets_GetAll.B9 : List Nat := [0, 0, 2, 7, 0, 0, 48, 15, 255]
theorem octets_GetAll.tab9 : rtab .any (opsOf Tryd.f38 9) = octets_GetAll.T9 := by kernel_rfl
theorem octets_GetAll.bits9 : waitsOk octets_GetAll.T9.2 octets_GetAll.B9 = true := by kernel_rfl
set_option maxHeartbeats 8000000 in
set_option maxRecDepth 100000 in
theorem octets_GetAll.calls (k : Nat) (P0_ : Nat → Prop) (A0 : Option Addr) (c0 : Nat) (l0 : List Int) (A1 : Option Addr) (c1 : Nat) (l1 : List Int) (r1 : List Int) (r2 : Int) (r3 : Int) (w : World) (hs0 : Kd.V (Kd.int .u8) 5 w w.heap.size (fun k_ => P0_ k_) (.slice A0 l0.length c0) l0) (hr1 : Kd.C (Kd.int .i64) w A1 l1.length l1) (hc1 : l1.length ≤ c1) (h : octets_GetAll.f k l0 l1 = some (r1, r2, r3)) :
  Calls Tryd.prog 38 #[.slice A0 l0.length c0, .slice A1 l1.length c1] w fun e w' => ∃ v0_ : Value, e = .returned (.tuple #[v0_, .int .i64 r2, .int .i64 r3]) ∧ Kd.R (Kd.int .i64) 3 w' w.heap.size (fun k_ => (w.heap.size ≤ k_)) v0_ r1 ∧ Below w.heap.size w w' := by
 have HO0 := Aside0.mk (show Kd.V (Kd.int .u8) 5 w w.heap.size (fun k_ => (P0_ k_ ∨ w.heap.size ≤ k_)) (.slice A0 l0.length c0) l0 from Kd.V_mono hs0 (fun k_ hk => .inl hk))
 have HR1 := Aside0.mk hr1
 have HC1 := Aside0.mk hc1
 clear hr1 hc1
 have HB := Aside0.mk (Below.refl w.heap.size w)
 have H : (octets_GetAll.l0 k l0 ([] : List Int) l0 l1 (l1.length : Int) 0) = some (r1, r2, r3) := h
 clear h
 have H' := Aside0.mk H
 clear H
 go_enter Tryd.func38, Tryd.ntmps38
 go_wp2
 go_loopg [7, 8, 16] k (fun kq v7 v8 v16 w' => ∃ (x7_1 : List Int) (Q2 : List Int) (Q0 : Int), v16 = .int .i64 Q0 ∧ Aside0 (octets_GetAll.l0 kq l0 x7_1 Q2 l1 (l1.length : Int) Q0 = some (r1, r2, r3)) ∧ Aside0 (kq ≤ k) ∧ Aside0 (Kd.V (Kd.int .u8) 5 w' w.heap.size (fun k_ => (P0_ k_ ∨ w.heap.size ≤ k_) ∧ some k_ ≠ (v7 : Value).ownBlock) (.slice A0 l0.length c0) l0) ∧ Aside0 (Kd.R (Kd.int .i64) 3 w' w.heap.size (fun k_ => (w.heap.size ≤ k_)) v7 x7_1) ∧ Aside0 (Kd.V (Kd.int .u8) 5 w' w.heap.size (fun k_ => (P0_ k_ ∨ w.heap.size ≤ k_) ∧ some k_ ≠ (v7 : Value).ownBlock) v8 Q2) ∧ Aside0 (Below w.heap.size w w'))
 case atStart => exact ⟨(([] : List Int)), (l0), (0), (by first | rfl | (simp; done) | (simp [*]; done)), H', ⟨Nat.le_refl _⟩, ⟨by (with_reducible repeat (first | apply Kd.V_alloc | apply Kd.V_drewN | apply Kd.V_drew)); exact Kd.V_mono HO0.out (fun _ hk => ⟨hk, (by simp [Value.ownBlock])⟩)⟩, ⟨by first | exact Kd.R_nil _ _ _ _ _ | exact Kd.N_nil _ _ _ _ _ | exact Kd.V_nil _ _ _ _ _ | exact Kd.Q_nil _ _ _ _ _ | exact Kd.S_nil _ _ _ _ _⟩, ⟨by (with_reducible repeat (first | apply Kd.V_alloc | apply Kd.V_drewN | apply Kd.V_drew)); exact Kd.V_mono HO0.out (fun _ hk => ⟨hk, (by simp [Value.ownBlock])⟩)⟩, ⟨by repeat (first | (with_reducible first | exact HB.out | apply qqc | apply qqa | apply qqb) | exact HB.out)⟩⟩
 case round =>
  clear H'
  try clear c1
  try clear p2
  obtain ⟨x7_1, Q2, Q0, rfl, HA, HK1, HO_0, HO_7, HO_8, HB⟩ := hrel
  cases gk with
  | zero => exact absurd HA.out (by simp [octets_GetAll.l0])
  | succ k1 =>
   have H := HA.out
   clear HA
   simp only [octets_GetAll.l0] at H
   by_cases c3 : Q0 < (l1.length : Int)
   ·rw [if_pos c3] at H
    have c3b0 : decide (Q0 < (l1.length : Int)) = true := decide_eq_true c3
    clear c3
    by_cases c4 : 0 ≤ Q0
    ·rw [if_pos c4] at H
     have c4b0 : decide (0 ≤ Q0) = true := decide_eq_true c4
     clear c4
     by_cases c5 : Q0 < (l1.length : Int)
     ·rw [if_pos c5] at H
      have c5b0 : decide (Q0 < (l1.length : Int)) = true := decide_eq_true c5
      clear c5
      replace H := Option.bind_eq_some_iff.mp H
      obtain ⟨⟨t264, t265⟩, A60, H⟩ := H
      replace H : (if t265 = 0 then (if x7_1.length < 17592186044416 then (if 0 ≤ (rd l1 Q0) then (if (rd l1 Q0) ≤ (Q2.length : Int) then (octets_GetAll.l0 k1 l0 (x7_1 ++ [t264]) (Q2.drop ((rd l1 Q0) : Int).toNat) l1 (l1.length : Int) (wrap64 (Q0 + 1))) else (none)) else (none)) else (none)) else (some (([] : List Int), 0, t265))) = some (r1, r2, r3) := H
      have A6 := Aside0.mk A60
      clear A60
      by_cases c7 : t265 = 0
      ·rw [if_pos c7] at H
       have c7b0 : (t265 == 0) = true := beq_iff_eq.mpr c7
       have c7b1 : (t265 != 0) = false := bne_eq_false_iff_eq.mpr c7
       clear c7
       by_cases c8 : x7_1.length < 17592186044416
       ·rw [if_pos c8] at H
        have LMc8 := Aside0.mk c8
        clear c8
        obtain ⟨y266, hy266⟩ : ∃ y_ : List Int, y_ = (x7_1 ++ [t264]) := ⟨_, rfl⟩
        replace H : (if 0 ≤ (rd l1 Q0) then (if (rd l1 Q0) ≤ (Q2.length : Int) then (octets_GetAll.l0 k1 l0 y266 (Q2.drop ((rd l1 Q0) : Int).toNat) l1 (l1.length : Int) (wrap64 (Q0 + 1))) else (none)) else (none)) = some (r1, r2, r3) := by first | (rw [hy266]; with_reducible exact H) | (have H2_ := (Option.bind_some _ _).symm.trans H; rw [hy266]; with_reducible exact H2_) | (have H2_ := (Option.bind_some _ _).symm.trans H; with_reducible exact H2_) | with_reducible exact H | (rw [hy266]; exact H) | exact H
        have Ny266 := Aside0.mk hy266
        clear hy266
        by_cases c9 : 0 ≤ (rd l1 Q0)
        ·rw [if_pos c9] at H
         have c9b0 := eq_true c9
         have c9b1 : decide (0 ≤ (rd l1 Q0)) = true := decide_eq_true c9
         clear c9
         by_cases c10 : (rd l1 Q0) ≤ (Q2.length : Int)
         ·rw [if_pos c10] at H
          have c10b0 := eq_true c10
          have c10b1 : decide ((rd l1 Q0) ≤ (Q2.length : Int)) = true := decide_eq_true c10
          clear c10
          obtain ⟨y269, hy269⟩ : ∃ y_ : List Int, y_ = (Q2.drop ((rd l1 Q0) : Int).toNat) := ⟨_, rfl⟩
          replace H : (octets_GetAll.l0 k1 l0 y266 y269 l1 (l1.length : Int) (wrap64 (Q0 + 1))) = some (r1, r2, r3) := by first | (rw [hy269]; with_reducible exact H) | (have H2_ := (Option.bind_some _ _).symm.trans H; rw [hy269]; with_reducible exact H2_) | (have H2_ := (Option.bind_some _ _).symm.trans H; with_reducible exact H2_) | with_reducible exact H | (rw [hy269]; exact H) | exact H
          have Ny269 := Aside0.mk hy269
          clear hy269
          have H' := Aside0.mk H
          clear H
          have p263 : 0 ≤ (Q0 : Int) := of_decide_eq_true (by first | (with_reducible assumption) | assumption)
          have q263 : Q0 < (l1.length : Int) := of_decide_eq_true (by first | (with_reducible assumption) | assumption)
          obtain ⟨ad263, e263, Q3⟩ := Kd.at_int HR1.out Q0 p263 q263
          cases e263
          replace Q3 := (HB.out.cell (World.block_lt_of_cell? w _ Q3)).trans Q3
          replace p263 := eq_true p263
          replace q263 := eq_true q263
          obtain ⟨Ao11, co11, eo11⟩ := Kd.V_slice HO_8.out
          subst eo11
          try go_wp2_with (first | ((with_reducible refine qqr (f := 45) rfl ?_); refine goesL_ (some 23) rfl rfl Tryd.func45 (by kernel_rfl) rfl #[.slice Ao11 Q2.length co11, .int .i64 (rd l1 Q0)] rfl (by (try simp only [List.map_toArray, List.map_cons, List.map_nil]); first | done | rfl | (simp only [List.length_drop, List.length_take]; rfl)) ?_; (with_reducible refine (octets_Get.calls k1 _ _ Q2 (rd l1 Q0) t264 t265 _ ?side1 ?side2 A6.out).mono ?_); (case side1 => repeat (first | exact (Kd.V_reads' HO_8.out).2.2 | (with_reducible refine Kd.C_alloc ?_ _) | (with_reducible refine Kd.C_drewN ?_ _) | (with_reducible refine Kd.C_drew ?_))); (case side2 => exact (Kd.V_reads' HO_8.out).2.1); rintro e w' ⟨rfl, ⟨nd, rfl⟩⟩; refine ⟨_, rfl, ?_⟩))
          (try (rw [drewN_self wr]; generalize hq_ : World.drewN wr _ = wr; have n0_ : Aside0 (Kd.V (Kd.int .u8) 5 wr w.heap.size (fun k_ => (P0_ k_ ∨ w.heap.size ≤ k_) ∧ some k_ ≠ (u7 : Value).ownBlock) (.slice A0 l0.length c0) l0) := ⟨by rw [← hq_]; exact (by (with_reducible repeat (first | apply Kd.V_alloc | apply Kd.V_drewN | apply Kd.V_drew)); exact HO_0.out)⟩; have n1_ : Aside0 (Kd.R (Kd.int .i64) 3 wr w.heap.size (fun k_ => (w.heap.size ≤ k_)) u7 x7_1) := ⟨by rw [← hq_]; exact (by (with_reducible repeat (first | apply Kd.R_alloc | apply Kd.R_drewN | apply Kd.R_drew)); exact HO_7.out)⟩; have n2_ : Aside0 (Kd.V (Kd.int .u8) 5 wr w.heap.size (fun k_ => (P0_ k_ ∨ w.heap.size ≤ k_) ∧ some k_ ≠ (u7 : Value).ownBlock) (.slice Ao11 Q2.length co11) Q2) := ⟨by rw [← hq_]; exact (by (with_reducible repeat (first | apply Kd.V_alloc | apply Kd.V_drewN | apply Kd.V_drew)); exact HO_8.out)⟩; have n3_ : Aside0 (Below w.heap.size w wr) := ⟨by rw [← hq_]; exact (by repeat (first | (with_reducible first | exact HB.out | apply qqc | apply qqa | apply qqb) | exact HB.out))⟩; clear HO_0 HO_7 HO_8 HB hq_; have HO_0 := n0_; have HO_7 := n1_; have HO_8 := n2_; have HB := n3_; clear n0_ n1_ n2_ n3_))
          replace HO_0 := Aside0.mk (Kd.V_drew HO_0.out)
          replace HO_7 := Aside0.mk (Kd.R_drew HO_7.out)
          replace HO_8 := Aside0.mk (Kd.V_drew HO_8.out)
          replace HB := Aside0.mk (qqb HB.out)
          have q13 : ((rd l1 Q0) : Int) ≤ ((Q2.length : Int) : Int) := of_decide_eq_true (by first | (with_reducible assumption) | assumption)
          obtain ⟨i013, hi013, _, hsz13, _⟩ := info_parts info5
          have hroom13 : Q2.length ≤ co11 := (Kd.V_reads' HO_8.out).2.1
          have hC13 : Kd.F (Kd.int .u8) _ _ Ao11 Q2.length Q2 := (Kd.V_at (base := w.heap.size) HO_8.out).2.2
          have q013 : (0 : Int) ≤ ((rd l1 Q0) : Int) := of_decide_eq_true (by first | (with_reducible assumption) | assumption)
          have hcut13 := cut_from (P := Tryd.prog) 31 5 .i64 Tryd.underlying31 hi013 1 hsz13 Ao11 Q2.length co11 (rd l1 Q0) q013 q13
          have hr13 := Kd.F_cut (m := ((rd l1 Q0) : Int).toNat) (c := co11) hC13 (by omega) hroom13
          obtain ⟨A13, hA13⟩ : ∃ A1, A1 = (if co11 = ((rd l1 Q0) : Int).toNat then Ao11 else (Ao11 : Option Addr).map (·.add (((rd l1 Q0) : Int).toNat * 1))) := ⟨_, rfl⟩
          obtain ⟨c13, hc13⟩ : ∃ c1, c1 = co11 - ((rd l1 Q0) : Int).toNat := ⟨_, rfl⟩
          have hy13 : y269.length = Q2.length - ((rd l1 Q0) : Int).toNat := (by rw [Ny269.out, List.length_drop] <;> omega)
          rw [show (Q2).drop ((rd l1 Q0) : Int).toNat = y269 from Ny269.out.symm] at hr13
          replace hr13 : Kd.F (Kd.int .u8) _ _ A13 y269.length y269 := (by rw [hA13]; exact hr13)
          rw [← hy13, ← hA13, ← hc13] at hcut13
          have Q4 := Aside0.mk (show Kd.V (Kd.int .u8) 5 _ w.heap.size _ (.slice A13 y269.length c13) y269 from Kd.V_mk (by rw [hy13, hc13]; exact Nat.sub_le_sub_right hroom13 _) hr13)
          have HC273 := Aside0.mk (show y269.length ≤ c13 from by rw [hy13, hc13]; exact Nat.sub_le_sub_right hroom13 _)
          clear hr13 hC13 hroom13 hi013 hsz13 hc13
          have KY13 := Aside0.mk hy13
          have KA13 := Aside0.mk hA13
          clear hy13 hA13
          replace q13 := eq_true q13
          refine start_ (n := 9) (S := fun w' => True) (ds := []) #[false, false, false, false, false, false, false, false, false] (by kernel_rfl) rfl rfl trivial (fun hHeld => ?_); refine with_tabW octets_GetAll.tab9 octets_GetAll.bits9 (fun HT_ HW_ => ?_)
          generalize wr.drew = w12 at HO_0 HO_7 HO_8 HB Q4 hHeld ⊢
          refine pure_ (i := 0) (N := some 29) (v := ?_) (a' := ?_) #[true, false, false, false, false, false, false, false, false] rfl rfl (qqn HT_.out (by kernel_rfl)) (fun _ _ _ h => h) (Or.inl ⟨by rfl, ?_⟩) ?_ ?_
          rotate_left
          ·intro w'
           go_simp
           with_reducible rfl
          rotate_left
          ·simp only [Act.put, qsA, qsB, qsC, qqo, qqp]
           rfl
          refine pure_ (i := 1) (N := some 30) (v := ?_) (a' := ?_) #[true, true, false, false, false, false, false, false, false] rfl rfl (qqn HT_.out (by kernel_rfl)) (fun _ _ _ h => h) (Or.inl ⟨by rfl, ?_⟩) ?_ ?_
          rotate_left
          ·intro w'
           go_simp
           with_reducible rfl
          rotate_left
          ·simp only [Act.put, qsA, qsB, qsC, qqo, qqp]
           rfl
          refine pure_ (i := 4) (N := some 33) (v := ?_) (a' := ?_) #[true, true, false, false, true, false, false, false, false] rfl rfl (qqn HT_.out (by kernel_rfl)) (fun _ _ _ h => h) (Or.inl ⟨by rfl, ?_⟩) ?_ ?_
          rotate_left
          ·intro w'
           go_simp
           with_reducible rfl
          rotate_left
          ·simp only [Act.put, qsA, qsB, qsC, qqo, qqp]
           rfl
          refine pure_ (i := 5) (N := some 34) (v := ?_) (a' := ?_) #[true, true, false, false, true, true, false, false, false] rfl rfl (qqn HT_.out (by kernel_rfl)) (fun _ _ _ h => h) (Or.inl ⟨by rfl, ?_⟩) ?_ ?_
          rotate_left
          ·intro w'
           go_simp
           with_reducible rfl
          rotate_left
          ·simp only [Act.put, qsA, qsB, qsC, qqo, qqp]
           rfl
          refine pure_ (i := 6) (N := some 35) (v := ?_) (a' := ?_) #[true, true, false, false, true, true, true, false, false] rfl rfl (qqn HT_.out (by kernel_rfl)) (fun _ _ _ h => h) (Or.inl ⟨by rfl, ?_⟩) ?_ ?_
          rotate_left
          ·intro w'
           go_simp
           with_reducible rfl
          rotate_left
          ·simp only [Act.put, qsA, qsB, qsC, qqo, qqp]
           rfl
          refine one_ (i := 2) (N := some 31) #[true, true, true, false, true, true, true, false, false] rfl rfl (one_of HT_.out (by kernel_rfl)) (by decide) (fun K hK => ?_)
          refine value_ (w1 := ?_) (v := ?_) (by rfl) rfl ?_ ?_
          rotate_left 2
          ·go_simp
           constructor
           ·rfl
           ·rfl
          refine hK.out _ _ trivial (fun hHeld => ?_)
          clear hK K
          refine norm_ (a' := ?_) ?_ ?_
          rotate_left
          ·show Act.put _ (some 31) _ = _
           simp only [Act.put, qsA, qsB, qsC, qqo, qqp]
           rfl
          refine one_ (i := 3) (N := some 32) #[true, true, true, true, true, true, true, false, false] rfl rfl (one_of HT_.out (by kernel_rfl)) (by decide) (fun K hK => ?_)
          refine Kd.R_append_step (Kd.int .i64) (w0 := w) w.heap.size (by rfl) (.tmp 29) (.tmp 31) 51 3 (.int .i64 0) 8 rfl Tryd.underlying51 info3 rfl (by decide) (by omega) u7 x7_1 t264 [.int .i64 t264] (fun k_ => (w.heap.size ≤ k_)) (fun _ => False) rfl rfl ?aP (fun _ hk => hk.elim) ?aF ?aO ?aB ?aS ?aL ?_
          (case aP => exact rfl)
          (case aB => exact (by repeat (first | (with_reducible first | exact HB.out | apply qqc | apply qqa | apply qqb) | exact HB.out)))
          (case aF => exact (fun k_ hk => (Nat.le_trans (qqu (by repeat (first | (with_reducible first | exact HB.out | apply qqc | apply qqa | apply qqb) | exact HB.out))) hk)))
          (case aO => exact (by (with_reducible repeat (first | apply Kd.R_alloc | apply Kd.R_drewN | apply Kd.R_drew)); exact HO_7.out))
          (case aS => exact (qqu (by repeat (first | (with_reducible first | exact HB.out | apply qqc | apply qqa | apply qqb) | exact HB.out))))
          (case aL => have := LMc8.out; omega)
          intro v267 w14 ho hb hg hat
          rw [← Ny266.out] at ho
          have n0_ := Aside0.mk (Kd.V_afterv (ok := (fun k_ => (P0_ k_ ∨ w.heap.size ≤ k_))) (by (with_reducible repeat (first | apply Kd.V_alloc | apply Kd.V_drewN | apply Kd.V_drew)); exact HO_0.out) hg hat)
          have n1_ := Aside0.mk (Kd.V_afterv (ok := (fun k_ => (P0_ k_ ∨ w.heap.size ≤ k_))) (by (with_reducible repeat (first | apply Kd.V_alloc | apply Kd.V_drewN | apply Kd.V_drew)); exact HO_8.out) hg hat)
          have n2_ := Aside0.mk (Kd.V_afterv (ok := (fun k_ => (P0_ k_ ∨ w.heap.size ≤ k_))) (by (with_reducible repeat (first | apply Kd.V_alloc | apply Kd.V_drewN | apply Kd.V_drew)); exact Q4.out) hg hat)
          have n3_ := Aside0.mk (hb)
          have n4_ := Aside0.mk (ho)
          clear HO_0
          clear HO_8
          clear Q4
          clear HB
          clear HO_7
          have HO_0 := n0_
          have HO_8 := n1_
          have Q4 := n2_
          have HB := n3_
          have HO268 := n4_
          clear n0_ n1_ n2_ n3_ n4_
          clear ho hb hg hat
          refine hK.out _ _ trivial (fun hHeld => ?_)
          clear hK K
          refine norm_ (a' := ?_) ?_ ?_
          rotate_left
          ·show Act.put _ (some 32) _ = _
           simp only [Act.put, qsA, qsB, qsC, qqo, qqp]
           rfl
          refine pure_ (i := 7) (N := some 7) (v := ?_) (a' := ?_) #[true, true, true, true, true, true, true, true, false] rfl rfl (qqn HT_.out (by kernel_rfl)) (fun _ _ _ h => h) (Or.inl ⟨by rfl, ?_⟩) ?_ ?_
          rotate_left
          ·intro w'
           go_simp
           with_reducible rfl
          rotate_left
          ·simp only [Act.put, qsA, qsB, qsC, qqo, qqp]
           rfl
          refine pure_ (i := 8) (N := some 8) (v := ?_) (a' := ?_) #[true, true, true, true, true, true, true, true, true] rfl rfl (qqn HT_.out (by kernel_rfl)) (fun _ _ _ h => h) (Or.inl ⟨by rfl, ?_⟩) ?_ ?_
          rotate_left
          ·intro w'
           go_simp
           with_reducible rfl
          rotate_left
          ·simp only [Act.put, qsA, qsB, qsC, qqo, qqp]
           rfl
          refine done_ (done_of HT_.out (by kernel_rfl)) ?_
          try go_wp2
          go_roundg k1
          case measure => have := HK1.out; omega
          case rel => exact ⟨(y266), (y269), (wrap64 (Q0 + 1)), (by first | rfl | (simp; done) | (simp [*]; done)), H', ⟨by have := HK1.out; omega⟩, ⟨by (with_reducible repeat (first | apply Kd.V_alloc | apply Kd.V_drewN | apply Kd.V_drew)); exact HO_0.out⟩, ⟨by (with_reducible repeat (first | apply Kd.R_alloc | apply Kd.R_drewN | apply Kd.R_drew)); exact HO268.out⟩, ⟨by (with_reducible repeat (first | apply Kd.V_alloc | apply Kd.V_drewN | apply Kd.V_drew)); exact Q4.out⟩, ⟨by repeat (first | (with_reducible first | exact HB.out | apply qqc | apply qqa | apply qqb) | exact HB.out)⟩⟩
         ·rw [if_neg c10] at H
          exact absurd H (by simp)
        ·rw [if_neg c9] at H
         exact absurd H (by simp)
       ·rw [if_neg c8] at H
        exact absurd H (by simp)
      ·rw [if_neg c7] at H
       have c7b0 : (t265 == 0) = false := beq_eq_false_iff_ne.mpr c7
       have c7b1 : (t265 != 0) = true := bne_iff_ne.mpr c7
       simp only [Option.some.injEq, Prod.mk.injEq] at H
       obtain ⟨rfl, rfl, rfl⟩ := H
       have p263 : 0 ≤ (Q0 : Int) := of_decide_eq_true (by first | (with_reducible assumption) | assumption)
       have q263 : Q0 < (l1.length : Int) := of_decide_eq_true (by first | (with_reducible assumption) | assumption)
       obtain ⟨ad263, e263, Q3⟩ := Kd.at_int HR1.out Q0 p263 q263
       cases e263
       replace Q3 := (HB.out.cell (World.block_lt_of_cell? w _ Q3)).trans Q3
       replace p263 := eq_true p263
       replace q263 := eq_true q263
       obtain ⟨Ao15, co15, eo15⟩ := Kd.V_slice HO_8.out
       subst eo15
       go_wp2_with (first | ((with_reducible refine qqr (f := 45) rfl ?_); refine goesL_ (some 23) rfl rfl Tryd.func45 (by kernel_rfl) rfl #[.slice Ao15 Q2.length co15, .int .i64 (rd l1 Q0)] rfl (by (try simp only [List.map_toArray, List.map_cons, List.map_nil]); first | done | rfl | (simp only [List.length_drop, List.length_take]; rfl)) ?_; (with_reducible refine (octets_Get.calls k1 _ _ Q2 (rd l1 Q0) t264 t265 _ ?side1 ?side2 A6.out).mono ?_); (case side1 => repeat (first | exact (Kd.V_reads' HO_8.out).2.2 | (with_reducible refine Kd.C_alloc ?_ _) | (with_reducible refine Kd.C_drewN ?_ _) | (with_reducible refine Kd.C_drew ?_))); (case side2 => exact (Kd.V_reads' HO_8.out).2.1); rintro e w' ⟨rfl, ⟨nd, rfl⟩⟩; refine ⟨_, rfl, ?_⟩))
       go_ret3
       exact ⟨_, by first | rfl | (simp [qqj, qqi] <;> rfl) | (simp [*, qqj, qqi] <;> rfl), by first | exact Kd.R_nil _ _ _ _ _ | exact Kd.N_nil _ _ _ _ _ | exact Kd.V_nil _ _ _ _ _ | exact Kd.Q_nil _ _ _ _ _ | exact Kd.S_nil _ _ _ _ _, by repeat (first | (with_reducible first | exact HB.out | apply qqc | apply qqa | apply qqb) | exact HB.out)⟩
     ·rw [if_neg c5] at H
      exact absurd H (by simp)
    ·rw [if_neg c4] at H
     exact absurd H (by simp)
   ·rw [if_neg c3] at H
    have c3b0 : decide (Q0 < (l1.length : Int)) = false := decide_eq_false c3
    clear c3
    simp only [Option.some.injEq, Prod.mk.injEq] at H
    obtain ⟨rfl, rfl, rfl⟩ := H
    obtain ⟨Ao16, co16, eo16⟩ := Kd.V_slice HO_8.out
    subst eo16
    go_wp2
    go_ret3
    exact ⟨_, by first | rfl | (simp [qqj, qqi] <;> rfl) | (simp [*, qqj, qqi] <;> rfl), by (with_reducible repeat (first | apply Kd.R_alloc | apply Kd.R_drewN | apply Kd.R_drew)); exact HO_7.out, by repeat (first | (with_reducible first | exact HB.out | apply qqc | apply qqa | apply qqb) | exact HB.out)⟩
end Go.Proofs.YtpaoofkahhhjaaaDoor.All
