/- Contracts of Go functions that this seat comes to, each with a plain function that tells its answers; conditions: those that each contract names. Written by a program of this session (wip/print) over the print words. -/
import Derived.Test.YtjnbnjlkljpbeaaAllx0
import Derived.Test.YtjnbnjlkljpbeaaAllx7
import Derived.Test.YtjnbnjlkljpbeaaAllx14
namespace Go.Proofs.Ytjnbnjlkljpbeaa.All
open Go.RowKit Go.Proofs.YtjnbnjlkljpbeaaW.PrintWords Go.Proofs.YtjnbnjlkljpbeaaW.PrintLast Go.Proofs.YtjnbnjlkljpbeaaW.PrintMore
attribute [local go_sem] max2_int min2_int max_two min_two max_three min_three max_four min_four   -- for this text's walks alone
set_option linter.unusedVariables false
set_option linter.unusedSimpArgs false

/-! ### wayfinderref04_Get: function 26 -/
def wayfinderref04_Get.f (k : Nat) (l0 : List Int) : Option (Int × Int × Int × Int × Int × Int × Int) := (wayfinderref02_GetAll.f k l0 (([4, 1, 1, 1, 1, 1] : List Int))).bind fun bt245 => (if bt245.2.2 = 0 then (if 0 < (bt245.1.length : Int) then (if 1 < (bt245.1.length : Int) then (if 2 < (bt245.1.length : Int) then (if 3 < (bt245.1.length : Int) then (if 4 < (bt245.1.length : Int) then (if 5 < (bt245.1.length : Int) then ((wayfinderref04_May.f k (rd bt245.1 0) (rd bt245.1 1) (wrap64 ((rd bt245.1 2) - 1)) (rd bt245.1 3) (rd bt245.1 4) (rd bt245.1 5)).bind fun t257 => (if t257 = true then (some (rd bt245.1 0, rd bt245.1 1, wrap64 ((rd bt245.1 2) - 1), rd bt245.1 3, rd bt245.1 4, rd bt245.1 5, 0)) else (some (0, 0, 0, 0, 0, 0, 2)))) else (none)) else (none)) else (none)) else (none)) else (none)) else (none)) else (some (0, 0, 0, 0, 0, 0, bt245.2.2)))
theorem wayfinderref04_Get.mono : ∀ a0 k, LeO (wayfinderref04_Get.f k a0) (wayfinderref04_Get.f (k + 1) a0) := by
  intro a0 k
  unfold wayfinderref04_Get.f
  repeat' first
      | (with_reducible exact wayfinderref02_GetAll.mono _ _ _)
      | (with_reducible exact wayfinderref04_May.mono _ _ _ _ _ _ _)
      | (with_reducible exact LeO.refl _)
      | (with_reducible exact LeO.none _)
      | (with_reducible refine LeO.ite ?_ ?_)
      | (with_reducible refine LeO.bind ?_ (fun _ => ?_))
      | exact wayfinderref02_GetAll.mono _ _ _
      | exact wayfinderref04_May.mono _ _ _ _ _ _ _
      | exact LeO.none _
      | refine LeO.ite ?_ ?_
      | refine LeO.bind ?_ (fun _ => ?_)
def wayfinderref04_Get.T4 : Bool × List (List Nat × List Nat) := (true, [([], []), ([0], [0]), ([1], [1]), ([], []), ([3], [3]), ([4], [4]), ([2, 5], [2, 5]), ([], []), ([7], [7]), ([8], [8]), ([9], [9]), ([], []), ([11], [11]), ([12], [12]), ([], []), ([14], [14]), ([15], [15]), ([], []), ([17], [17]), ([18], [18]), ([16, 19], [16, 19]), ([6, 10, 13, 20], [6, 10, 13, 20]), ([], []), ([22, 21, 0, 1, 2, 3, 4, 5, 6, 7, 8, 9, 10, 11, 12, 13, 14, 15, 16, 17, 18, 19, 20, 21, 22], [21, 22])])
def wayfinderref04_Get.B4 : List Nat := [0, 1, 3, 0, 8, 24, 63, 0, 128, 384, 896, 0, 2048, 6144, 0, 16384, 49152, 0, 131072, 393216, 1032192, 2097151, 0, 8388607]
theorem wayfinderref04_Get.tab4 : rtab .any (opsOf Try.f26 4) = wayfinderref04_Get.T4 := by kernel_rfl
theorem wayfinderref04_Get.bits4 : waitsOk wayfinderref04_Get.T4.2 wayfinderref04_Get.B4 = true := by kernel_rfl
set_option maxHeartbeats 8000000 in
set_option maxRecDepth 100000 in
theorem wayfinderref04_Get.calls (k : Nat) (A0 : Option Addr) (c0 : Nat) (l0 : List Int) (r1 : Int) (r2 : Int) (r3 : Int) (r4 : Int) (r5 : Int) (r6 : Int) (r7 : Int) (w : World) (hr0 : Kd.C (Kd.int .u8) w A0 l0.length l0) (hc0 : l0.length ≤ c0) (h : wayfinderref04_Get.f k l0 = some (r1, r2, r3, r4, r5, r6, r7)) :
    Calls Try.prog 26 #[.slice A0 l0.length c0] w fun e w' => e = .returned (.tuple #[.agg #[.int .i64 r1, .int .i64 r2, .int .i64 r3, .int .i64 r4, .int .i64 r5, .int .i64 r6], .int .i64 r7]) ∧ Below w.heap.size w w' := by
  have hu27 := Try.underlying27
  have hu23 := Try.underlying23
  have hu25 := Try.underlying25
  have HR0 := Aside0.mk hr0
  have HC0 := Aside0.mk hc0
  clear hr0 hc0
  have HB := Aside0.mk (Below.refl w.heap.size w)
  have H : ((wayfinderref02_GetAll.f k l0 (([4, 1, 1, 1, 1, 1] : List Int))).bind fun bt245 => (if bt245.2.2 = 0 then (if 0 < (bt245.1.length : Int) then (if 1 < (bt245.1.length : Int) then (if 2 < (bt245.1.length : Int) then (if 3 < (bt245.1.length : Int) then (if 4 < (bt245.1.length : Int) then (if 5 < (bt245.1.length : Int) then ((wayfinderref04_May.f k (rd bt245.1 0) (rd bt245.1 1) (wrap64 ((rd bt245.1 2) - 1)) (rd bt245.1 3) (rd bt245.1 4) (rd bt245.1 5)).bind fun t257 => (if t257 = true then (some (rd bt245.1 0, rd bt245.1 1, wrap64 ((rd bt245.1 2) - 1), rd bt245.1 3, rd bt245.1 4, rd bt245.1 5, 0)) else (some (0, 0, 0, 0, 0, 0, 2)))) else (none)) else (none)) else (none)) else (none)) else (none)) else (none)) else (some (0, 0, 0, 0, 0, 0, bt245.2.2)))) = some (r1, r2, r3, r4, r5, r6, r7) := h
  clear h
  obtain ⟨y242, hy242⟩ : ∃ y_ : List Int, y_ = (([4, 1, 1, 1, 1, 1] : List Int)) := ⟨_, rfl⟩
  replace H : ((wayfinderref02_GetAll.f k l0 y242).bind fun bt245 => (if bt245.2.2 = 0 then (if 0 < (bt245.1.length : Int) then (if 1 < (bt245.1.length : Int) then (if 2 < (bt245.1.length : Int) then (if 3 < (bt245.1.length : Int) then (if 4 < (bt245.1.length : Int) then (if 5 < (bt245.1.length : Int) then ((wayfinderref04_May.f k (rd bt245.1 0) (rd bt245.1 1) (wrap64 ((rd bt245.1 2) - 1)) (rd bt245.1 3) (rd bt245.1 4) (rd bt245.1 5)).bind fun t257 => (if t257 = true then (some (rd bt245.1 0, rd bt245.1 1, wrap64 ((rd bt245.1 2) - 1), rd bt245.1 3, rd bt245.1 4, rd bt245.1 5, 0)) else (some (0, 0, 0, 0, 0, 0, 2)))) else (none)) else (none)) else (none)) else (none)) else (none)) else (none)) else (some (0, 0, 0, 0, 0, 0, bt245.2.2)))) = some (r1, r2, r3, r4, r5, r6, r7) := by first | (rw [hy242]; with_reducible exact H) | (have H2_ := (Option.bind_some _ _).symm.trans H; rw [hy242]; with_reducible exact H2_) | (have H2_ := (Option.bind_some _ _).symm.trans H; with_reducible exact H2_) | with_reducible exact H | (rw [hy242]; exact H) | exact H
  have Ny242 := Aside0.mk hy242
  clear hy242
  replace H := Option.bind_eq_some_iff.mp H
  obtain ⟨⟨t245, t246, t247⟩, A20, H⟩ := H
  replace H : (if t247 = 0 then (if 0 < (t245.length : Int) then (if 1 < (t245.length : Int) then (if 2 < (t245.length : Int) then (if 3 < (t245.length : Int) then (if 4 < (t245.length : Int) then (if 5 < (t245.length : Int) then ((wayfinderref04_May.f k (rd t245 0) (rd t245 1) (wrap64 ((rd t245 2) - 1)) (rd t245 3) (rd t245 4) (rd t245 5)).bind fun t257 => (if t257 = true then (some (rd t245 0, rd t245 1, wrap64 ((rd t245 2) - 1), rd t245 3, rd t245 4, rd t245 5, 0)) else (some (0, 0, 0, 0, 0, 0, 2)))) else (none)) else (none)) else (none)) else (none)) else (none)) else (none)) else (some (0, 0, 0, 0, 0, 0, t247))) = some (r1, r2, r3, r4, r5, r6, r7) := H
  have A2 := Aside0.mk A20
  clear A20
  by_cases c3 : t247 = 0
  · rw [if_pos c3] at H
    have c3b0 : (t247 == 0) = true := beq_iff_eq.mpr c3
    have c3b1 : (t247 != 0) = false := bne_eq_false_iff_eq.mpr c3
    clear c3
    by_cases c4 : 0 < (t245.length : Int)
    · rw [if_pos c4] at H
      have c4b0 : decide (0 < (t245.length : Int)) = true := decide_eq_true c4
      have c4b1 : decide (0 < t245.length) = true := decide_eq_true (by omega)
      clear c4
      by_cases c5 : 1 < (t245.length : Int)
      · rw [if_pos c5] at H
        have c5b0 : decide (1 < (t245.length : Int)) = true := decide_eq_true c5
        have c5b1 : decide (1 < t245.length) = true := decide_eq_true (by omega)
        clear c5
        by_cases c6 : 2 < (t245.length : Int)
        · rw [if_pos c6] at H
          have c6b0 : decide (2 < (t245.length : Int)) = true := decide_eq_true c6
          have c6b1 : decide (2 < t245.length) = true := decide_eq_true (by omega)
          clear c6
          by_cases c7 : 3 < (t245.length : Int)
          · rw [if_pos c7] at H
            have c7b0 : decide (3 < (t245.length : Int)) = true := decide_eq_true c7
            have c7b1 : decide (3 < t245.length) = true := decide_eq_true (by omega)
            clear c7
            by_cases c8 : 4 < (t245.length : Int)
            · rw [if_pos c8] at H
              have c8b0 : decide (4 < (t245.length : Int)) = true := decide_eq_true c8
              have c8b1 : decide (4 < t245.length) = true := decide_eq_true (by omega)
              clear c8
              by_cases c9 : 5 < (t245.length : Int)
              · rw [if_pos c9] at H
                have c9b0 : decide (5 < (t245.length : Int)) = true := decide_eq_true c9
                have c9b1 : decide (5 < t245.length) = true := decide_eq_true (by omega)
                clear c9
                replace H := Option.bind_eq_some_iff.mp H
                obtain ⟨t257, A100, H⟩ := H
                replace H : (if t257 = true then (some (rd t245 0, rd t245 1, wrap64 ((rd t245 2) - 1), rd t245 3, rd t245 4, rd t245 5, 0)) else (some (0, 0, 0, 0, 0, 0, 2))) = some (r1, r2, r3, r4, r5, r6, r7) := H
                have A10 := Aside0.mk A100
                clear A100
                by_cases c11 : t257 = true
                · subst c11
                  have H1 : (some (rd t245 0, rd t245 1, wrap64 ((rd t245 2) - 1), rd t245 3, rd t245 4, rd t245 5, 0)) = some (r1, r2, r3, r4, r5, r6, r7) := by rw [if_pos rfl] at H; exact H
                  clear H
                  have H := H1
                  clear H1
                  simp only [Option.some.injEq, Prod.mk.injEq] at H
                  obtain ⟨rfl, rfl, rfl, rfl, rfl, rfl, rfl⟩ := H
                  go_enter Try.func26, Try.ntmps26
                  try go_wp2_with (first | ((with_reducible refine gate_dst (N := 2) rfl ?_); refine box_event ?hg (N := 2) ?hd (cs := #[.int .i64 0, .int .i64 0, .int .i64 0, .int .i64 0, .int .i64 0, .int .i64 0]) (t := 27) ?hr ?_; (case hd => rfl); (case hg => rfl); (case hr => first | (go_simp; done) | (go_simp; rfl)); intro gb241 hg w12 hbox hb; have n0_ := Aside0.mk (below_step (by repeat (first | (with_reducible first | exact HB.out | apply below_alloc | apply pw_below_drewN | apply below_drew1) | exact HB.out)) hb); have n1_ := Aside0.mk (hbox); have n2_ := Aside0.mk ((by rw [hg]; exact (below_size (by repeat (first | (with_reducible first | exact HB.out | apply below_alloc | apply pw_below_drewN | apply below_drew1) | exact HB.out))) : w.heap.size ≤ gb241)); have n3_ := Aside0.mk ((by rw [hg]; exact (below_size (by repeat (first | (with_reducible first | exact HB.out | apply below_alloc | apply pw_below_drewN | apply below_drew1) | exact HB.out))) : w.heap.size ≤ gb241)); clear HB; have HB := n0_; have BK241 := n1_; have GW241 := n2_; have GE241 := n3_; clear n0_ n1_ n2_ n3_; clear hb hbox hg) | ((with_reducible refine gate_dst (N := 11) rfl ?_); refine Kd.R_lit (Kd.int .i64) _ 3 ?hg (N := 11) ?hd (xs := ([4, 1, 1, 1, 1, 1] : List Int)) (inner := [.int .i64 4, .int .i64 1, .int .i64 1, .int .i64 1, .int .i64 1, .int .i64 1]) (ok := fun _ => True) (okp := fun _ => True) ?hr ?hp (fun _ hk => hk) trivial (Below.refl _ _) (Nat.le_refl _) (by simp) ?_; (case hd => rfl); (case hg => rfl); (case hr => first | (go_simp; done) | (go_simp; rfl)); (case hp => exact (Reps.one (show Kd.M (Kd.int .i64) _ _ _ 4 [.int .i64 4] from rfl) (Reps.one (show Kd.M (Kd.int .i64) _ _ _ 1 [.int .i64 1] from rfl) (Reps.one (show Kd.M (Kd.int .i64) _ _ _ 1 [.int .i64 1] from rfl) (Reps.one (show Kd.M (Kd.int .i64) _ _ _ 1 [.int .i64 1] from rfl) (Reps.one (show Kd.M (Kd.int .i64) _ _ _ 1 [.int .i64 1] from rfl) (Reps.one (show Kd.M (Kd.int .i64) _ _ _ 1 [.int .i64 1] from rfl) (Reps.none _ _)))))))); intro v243 w13 ho14 hb hg_ hnew_; clear hg_ hnew_; (first | rw [← Ny242.out] at ho14 | (simp only [Int.reduceToNat] at ho14; rw [← Ny242.out] at ho14)); have n0_ := Aside0.mk (Kd.R_lower ho14 (below_size (by repeat (first | (with_reducible first | exact HB.out | apply below_alloc | apply pw_below_drewN | apply below_drew1 | refine below_set ?_ GE241.out) | exact HB.out)))); have n1_ := Aside0.mk (blk_below (g := gb241) (o := .cells #[.int .i64 0, .int .i64 0, .int .i64 0, .int .i64 0, .int .i64 0, .int .i64 0] 27 (0, 0)) (by (with_reducible repeat (first | refine blk_drewN ?_ _ | refine blk_drew ?_ | refine blk_alloc ?_ _)); exact BK241.out) hb); have n2_ := Aside0.mk (below_step (by repeat (first | (with_reducible first | exact HB.out | apply below_alloc | apply pw_below_drewN | apply below_drew1 | refine below_set ?_ GE241.out) | exact HB.out)) hb); clear BK241; clear HB; have HO244 := n0_; have BK241 := n1_; have HB := n2_; clear n0_ n1_ n2_; clear hb ho14; obtain ⟨Ao15, co15, eo15⟩ := Kd.R_slice HO244.out; subst eo15) | ((with_reducible refine gate_callee (f := 35) rfl ?_); refine goesL_ (some 12) rfl rfl Try.func35 (by kernel_rfl) rfl #[.slice A0 l0.length c0, .slice Ao15 y242.length co15] rfl (by (try simp only [List.map_toArray, List.map_cons, List.map_nil]); first | done | rfl | (simp only [List.length_drop, List.length_take]; rfl)) ?_; (with_reducible refine (wayfinderref02_GetAll.calls k _ _ l0 _ _ y242 t245 t246 t247 _ ?side1 ?side2 ?side3 ?side4 A2.out).mono ?_); (case side1 => repeat (first | exact (Kd.C_below HR0.out HB.out) | (with_reducible refine Kd.C_alloc ?_ _) | (with_reducible refine Kd.C_drewN ?_ _) | (with_reducible refine Kd.C_drew ?_))); (case side2 => exact HC0.out); (case side3 => repeat (first | exact (Kd.R_reads' HO244.out).2.2 | (with_reducible refine Kd.C_alloc ?_ _) | (with_reducible refine Kd.C_drewN ?_ _) | (with_reducible refine Kd.C_drew ?_))); (case side4 => exact (Kd.R_reads' HO244.out).2.1); rintro e w16 ⟨v248, rfl, ho0, hb⟩; refine ⟨_, rfl, ?_⟩; have n0_ := Aside0.mk (Kd.R_elder' (by (with_reducible repeat (first | apply Kd.R_alloc | apply Kd.R_drewN | apply Kd.R_drew)); exact HO244.out) (Kd.R_base ho0) hb); have n1_ := Aside0.mk (Kd.R_lower (Kd.R_new' ho0 (Kd.R_lt (by (with_reducible repeat (first | apply Kd.R_alloc | apply Kd.R_drewN | apply Kd.R_drew)); exact HO244.out))) (below_size (by repeat (first | (with_reducible first | exact HB.out | apply below_alloc | apply pw_below_drewN | apply below_drew1 | refine below_set ?_ GE241.out) | exact HB.out)))); have n2_ := Aside0.mk (blk_below (g := gb241) (o := .cells #[.int .i64 0, .int .i64 0, .int .i64 0, .int .i64 0, .int .i64 0, .int .i64 0] 27 (0, 0)) (by (with_reducible repeat (first | refine blk_drewN ?_ _ | refine blk_drew ?_ | refine blk_alloc ?_ _)); exact BK241.out) hb); have n3_ := Aside0.mk (below_step (by repeat (first | (with_reducible first | exact HB.out | apply below_alloc | apply pw_below_drewN | apply below_drew1 | refine below_set ?_ GE241.out) | exact HB.out)) hb); clear HO244; clear BK241; clear HB; have HO244 := n0_; have HO249 := n1_; have BK241 := n2_; have HB := n3_; clear n0_ n1_ n2_ n3_; (try clear hb); (try clear hb2); (try clear hk); (try clear hi); (try clear ho0)))
                  have n0_ := Aside0.mk (Kd.R_drew HO244.out)
                  have n1_ := Aside0.mk (Kd.R_drew HO249.out)
                  have n2_ := Aside0.mk (blk_drew BK241.out)
                  have n3_ := Aside0.mk (below_drew1 HB.out)
                  clear HO244
                  clear HO249
                  clear BK241
                  clear HB
                  have HO244 := n0_
                  have HO249 := n1_
                  have BK241 := n2_
                  have HB := n3_
                  clear n0_ n1_ n2_ n3_
                  obtain ⟨Ao18, co18, eo18⟩ := Kd.R_slice HO249.out
                  (first | subst eo18 | (injection eo18 with f1_ f2_ f3_; have f4_ := f1_.symm; have f5_ := f3_.symm; clear f1_ f2_ f3_; subst f4_; subst f5_))
                  have p250 : 0 ≤ (0 : Int) := (by omega)
                  have q250 : 0 < (t245.length : Int) := of_decide_eq_true (by first | (with_reducible assumption) | assumption)
                  obtain ⟨ad250, e250, hx250_0⟩ := Kd.at_int (Kd.R_reads' HO249.out).2.2 0 p250 q250
                  cases e250
                  have qi250 : (0 < t245.length) = True := eq_true (by omega)
                  (try rw [show ((0 : Int)).toNat = 0 from rfl] at hx250_0)
                  (try rw [Addr.add_zero'] at hx250_0)
                  replace p250 := eq_true p250
                  replace q250 := eq_true q250
                  have p251 : 0 ≤ (1 : Int) := (by omega)
                  have q251 : 1 < (t245.length : Int) := of_decide_eq_true (by first | (with_reducible assumption) | assumption)
                  obtain ⟨ad251, e251, hx251_0⟩ := Kd.at_int (Kd.R_reads' HO249.out).2.2 1 p251 q251
                  obtain rfl : ad250 = ad251 := (by injection e251)
                  (try simp only [show (1 : Int).toNat = 1 from rfl, Nat.reduceMul, Nat.reduceEqDiff, Go.Addr.add, ↓reduceIte] at hx251_0)
                  have qi251 : (1 < t245.length) = True := eq_true (by omega)
                  (try rw [show ((1 : Int)).toNat = 1 from rfl] at hx251_0)
                  replace p251 := eq_true p251
                  replace q251 := eq_true q251
                  have p252 : 0 ≤ (2 : Int) := (by omega)
                  have q252 : 2 < (t245.length : Int) := of_decide_eq_true (by first | (with_reducible assumption) | assumption)
                  obtain ⟨ad252, e252, hx252_0⟩ := Kd.at_int (Kd.R_reads' HO249.out).2.2 2 p252 q252
                  obtain rfl : ad250 = ad252 := (by injection e252)
                  (try simp only [show (2 : Int).toNat = 2 from rfl, Nat.reduceMul, Nat.reduceEqDiff, Go.Addr.add, ↓reduceIte] at hx252_0)
                  have qi252 : (2 < t245.length) = True := eq_true (by omega)
                  (try rw [show ((2 : Int)).toNat = 2 from rfl] at hx252_0)
                  replace p252 := eq_true p252
                  replace q252 := eq_true q252
                  have p253 : 0 ≤ (3 : Int) := (by omega)
                  have q253 : 3 < (t245.length : Int) := of_decide_eq_true (by first | (with_reducible assumption) | assumption)
                  obtain ⟨ad253, e253, hx253_0⟩ := Kd.at_int (Kd.R_reads' HO249.out).2.2 3 p253 q253
                  obtain rfl : ad250 = ad253 := (by injection e253)
                  (try simp only [show (3 : Int).toNat = 3 from rfl, Nat.reduceMul, Nat.reduceEqDiff, Go.Addr.add, ↓reduceIte] at hx253_0)
                  have qi253 : (3 < t245.length) = True := eq_true (by omega)
                  (try rw [show ((3 : Int)).toNat = 3 from rfl] at hx253_0)
                  replace p253 := eq_true p253
                  replace q253 := eq_true q253
                  have p254 : 0 ≤ (4 : Int) := (by omega)
                  have q254 : 4 < (t245.length : Int) := of_decide_eq_true (by first | (with_reducible assumption) | assumption)
                  obtain ⟨ad254, e254, hx254_0⟩ := Kd.at_int (Kd.R_reads' HO249.out).2.2 4 p254 q254
                  obtain rfl : ad250 = ad254 := (by injection e254)
                  (try simp only [show (4 : Int).toNat = 4 from rfl, Nat.reduceMul, Nat.reduceEqDiff, Go.Addr.add, ↓reduceIte] at hx254_0)
                  have qi254 : (4 < t245.length) = True := eq_true (by omega)
                  (try rw [show ((4 : Int)).toNat = 4 from rfl] at hx254_0)
                  replace p254 := eq_true p254
                  replace q254 := eq_true q254
                  have p255 : 0 ≤ (5 : Int) := (by omega)
                  have q255 : 5 < (t245.length : Int) := of_decide_eq_true (by first | (with_reducible assumption) | assumption)
                  obtain ⟨ad255, e255, hx255_0⟩ := Kd.at_int (Kd.R_reads' HO249.out).2.2 5 p255 q255
                  obtain rfl : ad250 = ad255 := (by injection e255)
                  (try simp only [show (5 : Int).toNat = 5 from rfl, Nat.reduceMul, Nat.reduceEqDiff, Go.Addr.add, ↓reduceIte] at hx255_0)
                  have qi255 : (5 < t245.length) = True := eq_true (by omega)
                  (try rw [show ((5 : Int)).toNat = 5 from rfl] at hx255_0)
                  replace p255 := eq_true p255
                  replace q255 := eq_true q255
                  refine start_ (n := 24) (S := fun w' => w'.cell? ad250 = some (.int .i64 (rd t245 0)) ∧ w'.cell? ⟨ad250.block, ad250.off + 1, none⟩ = some (.int .i64 (rd t245 1)) ∧ w'.cell? ⟨ad250.block, ad250.off + 2, none⟩ = some (.int .i64 (rd t245 2)) ∧ w'.cell? ⟨ad250.block, ad250.off + 3, none⟩ = some (.int .i64 (rd t245 3)) ∧ w'.cell? ⟨ad250.block, ad250.off + 4, none⟩ = some (.int .i64 (rd t245 4)) ∧ w'.cell? ⟨ad250.block, ad250.off + 5, none⟩ = some (.int .i64 (rd t245 5))) (ds := []) #[false, false, false, false, false, false, false, false, false, false, false, false, false, false, false, false, false, false, false, false, false, false, false, false] (by kernel_rfl) rfl rfl ⟨hx250_0, hx251_0, hx252_0, hx253_0, hx254_0, hx255_0⟩ (fun hHeld => ?_); refine with_tabW wayfinderref04_Get.tab4 wayfinderref04_Get.bits4 (fun HT_ HW_ => ?_)
                  generalize w16.drew = w17 at HO244 HO249 BK241 HB hx250_0 hx251_0 hx252_0 hx253_0 hx254_0 hx255_0 hHeld ⊢
                  refine pure_ (i := 0) (N := some 20) (v := ?_) (a' := ?_) #[true, false, false, false, false, false, false, false, false, false, false, false, false, false, false, false, false, false, false, false, false, false, false, false] rfl rfl (any_of HT_.out (by kernel_rfl)) (fun _ _ _ h => h) (Or.inl ⟨by rfl, ?_⟩) ?_ ?_
                  rotate_left
                  · intro w'
                    go_simp
                    with_reducible rfl
                  rotate_left
                  · simp only [Act.put, List.setIfInBounds_toArray, List.set_cons_zero, List.set_cons_succ, i64_w, i32_w]
                    rfl
                  refine pure_ (i := 1) (N := some 21) (v := ?_) (a' := ?_) #[true, true, false, false, false, false, false, false, false, false, false, false, false, false, false, false, false, false, false, false, false, false, false, false] rfl rfl (any_of HT_.out (by kernel_rfl)) (fun _ _ _ h => h) (Or.inl ⟨by rfl, ?_⟩) ?_ ?_
                  rotate_left
                  · intro w'
                    go_simp
                    with_reducible rfl
                  rotate_left
                  · simp only [Act.put, List.setIfInBounds_toArray, List.set_cons_zero, List.set_cons_succ, i64_w, i32_w]
                    rfl
                  refine pure_ (i := 3) (N := some 23) (v := ?_) (a' := ?_) #[true, true, false, true, false, false, false, false, false, false, false, false, false, false, false, false, false, false, false, false, false, false, false, false] rfl rfl (any_of HT_.out (by kernel_rfl)) (fun _ _ _ h => h) (Or.inl ⟨by rfl, ?_⟩) ?_ ?_
                  rotate_left
                  · intro w'
                    go_simp
                    with_reducible rfl
                  rotate_left
                  · simp only [Act.put, List.setIfInBounds_toArray, List.set_cons_zero, List.set_cons_succ, i64_w, i32_w]
                    rfl
                  refine pure_ (i := 4) (N := some 24) (v := ?_) (a' := ?_) #[true, true, false, true, true, false, false, false, false, false, false, false, false, false, false, false, false, false, false, false, false, false, false, false] rfl rfl (any_of HT_.out (by kernel_rfl)) (fun _ _ _ h => h) (Or.inl ⟨by rfl, ?_⟩) ?_ ?_
                  rotate_left
                  · intro w'
                    go_simp
                    with_reducible rfl
                  rotate_left
                  · simp only [Act.put, List.setIfInBounds_toArray, List.set_cons_zero, List.set_cons_succ, i64_w, i32_w]
                    rfl
                  refine pure_ (i := 7) (N := some 27) (v := ?_) (a' := ?_) #[true, true, false, true, true, false, false, true, false, false, false, false, false, false, false, false, false, false, false, false, false, false, false, false] rfl rfl (any_of HT_.out (by kernel_rfl)) (fun _ _ _ h => h) (Or.inl ⟨by rfl, ?_⟩) ?_ ?_
                  rotate_left
                  · intro w'
                    go_simp
                    with_reducible rfl
                  rotate_left
                  · simp only [Act.put, List.setIfInBounds_toArray, List.set_cons_zero, List.set_cons_succ, i64_w, i32_w]
                    rfl
                  refine pure_ (i := 8) (N := some 28) (v := ?_) (a' := ?_) #[true, true, false, true, true, false, false, true, true, false, false, false, false, false, false, false, false, false, false, false, false, false, false, false] rfl rfl (any_of HT_.out (by kernel_rfl)) (fun _ _ _ h => h) (Or.inl ⟨by rfl, ?_⟩) ?_ ?_
                  rotate_left
                  · intro w'
                    go_simp
                    with_reducible rfl
                  rotate_left
                  · simp only [Act.put, List.setIfInBounds_toArray, List.set_cons_zero, List.set_cons_succ, i64_w, i32_w]
                    rfl
                  refine pure_ (i := 11) (N := some 31) (v := ?_) (a' := ?_) #[true, true, false, true, true, false, false, true, true, false, false, true, false, false, false, false, false, false, false, false, false, false, false, false] rfl rfl (any_of HT_.out (by kernel_rfl)) (fun _ _ _ h => h) (Or.inl ⟨by rfl, ?_⟩) ?_ ?_
                  rotate_left
                  · intro w'
                    go_simp
                    with_reducible rfl
                  rotate_left
                  · simp only [Act.put, List.setIfInBounds_toArray, List.set_cons_zero, List.set_cons_succ, i64_w, i32_w]
                    rfl
                  refine pure_ (i := 12) (N := some 32) (v := ?_) (a' := ?_) #[true, true, false, true, true, false, false, true, true, false, false, true, true, false, false, false, false, false, false, false, false, false, false, false] rfl rfl (any_of HT_.out (by kernel_rfl)) (fun _ _ _ h => h) (Or.inl ⟨by rfl, ?_⟩) ?_ ?_
                  rotate_left
                  · intro w'
                    go_simp
                    with_reducible rfl
                  rotate_left
                  · simp only [Act.put, List.setIfInBounds_toArray, List.set_cons_zero, List.set_cons_succ, i64_w, i32_w]
                    rfl
                  refine pure_ (i := 14) (N := some 34) (v := ?_) (a' := ?_) #[true, true, false, true, true, false, false, true, true, false, false, true, true, false, true, false, false, false, false, false, false, false, false, false] rfl rfl (any_of HT_.out (by kernel_rfl)) (fun _ _ _ h => h) (Or.inl ⟨by rfl, ?_⟩) ?_ ?_
                  rotate_left
                  · intro w'
                    go_simp
                    with_reducible rfl
                  rotate_left
                  · simp only [Act.put, List.setIfInBounds_toArray, List.set_cons_zero, List.set_cons_succ, i64_w, i32_w]
                    rfl
                  refine pure_ (i := 15) (N := some 35) (v := ?_) (a' := ?_) #[true, true, false, true, true, false, false, true, true, false, false, true, true, false, true, true, false, false, false, false, false, false, false, false] rfl rfl (any_of HT_.out (by kernel_rfl)) (fun _ _ _ h => h) (Or.inl ⟨by rfl, ?_⟩) ?_ ?_
                  rotate_left
                  · intro w'
                    go_simp
                    with_reducible rfl
                  rotate_left
                  · simp only [Act.put, List.setIfInBounds_toArray, List.set_cons_zero, List.set_cons_succ, i64_w, i32_w]
                    rfl
                  refine pure_ (i := 17) (N := some 37) (v := ?_) (a' := ?_) #[true, true, false, true, true, false, false, true, true, false, false, true, true, false, true, true, false, true, false, false, false, false, false, false] rfl rfl (any_of HT_.out (by kernel_rfl)) (fun _ _ _ h => h) (Or.inl ⟨by rfl, ?_⟩) ?_ ?_
                  rotate_left
                  · intro w'
                    go_simp
                    with_reducible rfl
                  rotate_left
                  · simp only [Act.put, List.setIfInBounds_toArray, List.set_cons_zero, List.set_cons_succ, i64_w, i32_w]
                    rfl
                  refine pure_ (i := 18) (N := some 38) (v := ?_) (a' := ?_) #[true, true, false, true, true, false, false, true, true, false, false, true, true, false, true, true, false, true, true, false, false, false, false, false] rfl rfl (any_of HT_.out (by kernel_rfl)) (fun _ _ _ h => h) (Or.inl ⟨by rfl, ?_⟩) ?_ ?_
                  rotate_left
                  · intro w'
                    go_simp
                    with_reducible rfl
                  rotate_left
                  · simp only [Act.put, List.setIfInBounds_toArray, List.set_cons_zero, List.set_cons_succ, i64_w, i32_w]
                    rfl
                  refine take_ (i := 2) (N := some 22) (v := ?_) (a' := ?_) #[true, true, true, true, true, false, false, true, true, false, false, true, true, false, true, true, false, true, true, false, false, false, false, false] rfl rfl (take_ofW HT_.out HW_.out (by kernel_rfl)) (fun _ _ _ h => h) (Or.inl ⟨by rfl, ?_⟩) hHeld ?_ ?_
                  rotate_left
                  · rintro w' ⟨s0, s1, s2, s3, s4, s5⟩
                    go_simp
                    with_reducible rfl
                  rotate_left
                  · simp only [Act.put, List.setIfInBounds_toArray, List.set_cons_zero, List.set_cons_succ, i64_w, i32_w]
                    rfl
                  refine take_ (i := 5) (N := some 25) (v := ?_) (a' := ?_) #[true, true, true, true, true, true, false, true, true, false, false, true, true, false, true, true, false, true, true, false, false, false, false, false] rfl rfl (take_ofW HT_.out HW_.out (by kernel_rfl)) (fun _ _ _ h => h) (Or.inl ⟨by rfl, ?_⟩) hHeld ?_ ?_
                  rotate_left
                  · rintro w' ⟨s0, s1, s2, s3, s4, s5⟩
                    go_simp
                    with_reducible rfl
                  rotate_left
                  · simp only [Act.put, List.setIfInBounds_toArray, List.set_cons_zero, List.set_cons_succ, i64_w, i32_w]
                    rfl
                  refine pure_ (i := 6) (N := some 26) (v := ?_) (a' := ?_) #[true, true, true, true, true, true, true, true, true, false, false, true, true, false, true, true, false, true, true, false, false, false, false, false] rfl rfl (any_of HT_.out (by kernel_rfl)) (fun _ _ _ h => h) (Or.inl ⟨by rfl, ?_⟩) ?_ ?_
                  rotate_left
                  · intro w'
                    go_simp
                    with_reducible rfl
                  rotate_left
                  · simp only [Act.put, List.setIfInBounds_toArray, List.set_cons_zero, List.set_cons_succ, i64_w, i32_w]
                    rfl
                  refine take_ (i := 9) (N := some 29) (v := ?_) (a' := ?_) #[true, true, true, true, true, true, true, true, true, true, false, true, true, false, true, true, false, true, true, false, false, false, false, false] rfl rfl (take_ofW HT_.out HW_.out (by kernel_rfl)) (fun _ _ _ h => h) (Or.inl ⟨by rfl, ?_⟩) hHeld ?_ ?_
                  rotate_left
                  · rintro w' ⟨s0, s1, s2, s3, s4, s5⟩
                    go_simp
                    with_reducible rfl
                  rotate_left
                  · simp only [Act.put, List.setIfInBounds_toArray, List.set_cons_zero, List.set_cons_succ, i64_w, i32_w]
                    rfl
                  refine pure_ (i := 10) (N := some 30) (v := ?_) (a' := ?_) #[true, true, true, true, true, true, true, true, true, true, true, true, true, false, true, true, false, true, true, false, false, false, false, false] rfl rfl (any_of HT_.out (by kernel_rfl)) (fun _ _ _ h => h) (Or.inl ⟨by rfl, ?_⟩) ?_ ?_
                  rotate_left
                  · intro w'
                    go_simp
                    with_reducible rfl
                  rotate_left
                  · simp only [Act.put, List.setIfInBounds_toArray, List.set_cons_zero, List.set_cons_succ, i64_w, i32_w]
                    rfl
                  refine take_ (i := 13) (N := some 33) (v := ?_) (a' := ?_) #[true, true, true, true, true, true, true, true, true, true, true, true, true, true, true, true, false, true, true, false, false, false, false, false] rfl rfl (take_ofW HT_.out HW_.out (by kernel_rfl)) (fun _ _ _ h => h) (Or.inl ⟨by rfl, ?_⟩) hHeld ?_ ?_
                  rotate_left
                  · rintro w' ⟨s0, s1, s2, s3, s4, s5⟩
                    go_simp
                    with_reducible rfl
                  rotate_left
                  · simp only [Act.put, List.setIfInBounds_toArray, List.set_cons_zero, List.set_cons_succ, i64_w, i32_w]
                    rfl
                  refine take_ (i := 16) (N := some 36) (v := ?_) (a' := ?_) #[true, true, true, true, true, true, true, true, true, true, true, true, true, true, true, true, true, true, true, false, false, false, false, false] rfl rfl (take_ofW HT_.out HW_.out (by kernel_rfl)) (fun _ _ _ h => h) (Or.inl ⟨by rfl, ?_⟩) hHeld ?_ ?_
                  rotate_left
                  · rintro w' ⟨s0, s1, s2, s3, s4, s5⟩
                    go_simp
                    with_reducible rfl
                  rotate_left
                  · simp only [Act.put, List.setIfInBounds_toArray, List.set_cons_zero, List.set_cons_succ, i64_w, i32_w]
                    rfl
                  refine take_ (i := 19) (N := some 39) (v := ?_) (a' := ?_) #[true, true, true, true, true, true, true, true, true, true, true, true, true, true, true, true, true, true, true, true, false, false, false, false] rfl rfl (take_ofW HT_.out HW_.out (by kernel_rfl)) (fun _ _ _ h => h) (Or.inl ⟨by rfl, ?_⟩) hHeld ?_ ?_
                  rotate_left
                  · rintro w' ⟨s0, s1, s2, s3, s4, s5⟩
                    go_simp
                    with_reducible rfl
                  rotate_left
                  · simp only [Act.put, List.setIfInBounds_toArray, List.set_cons_zero, List.set_cons_succ, i64_w, i32_w]
                    rfl
                  refine pure_ (i := 20) (N := some 40) (v := ?_) (a' := ?_) #[true, true, true, true, true, true, true, true, true, true, true, true, true, true, true, true, true, true, true, true, true, false, false, false] rfl rfl (any_of HT_.out (by kernel_rfl)) (fun _ _ _ h => h) (Or.inl ⟨by rfl, ?_⟩) ?_ ?_
                  rotate_left
                  · intro w'
                    go_simp
                    with_reducible rfl
                  rotate_left
                  · simp only [Act.put, List.setIfInBounds_toArray, List.set_cons_zero, List.set_cons_succ, i64_w, i32_w]
                    rfl
                  refine pure_ (i := 21) (N := some 41) (v := ?_) (a' := ?_) #[true, true, true, true, true, true, true, true, true, true, true, true, true, true, true, true, true, true, true, true, true, true, false, false] rfl rfl (any_of HT_.out (by kernel_rfl)) (fun _ _ _ h => h) (Or.inl ⟨by rfl, ?_⟩) ?_ ?_
                  rotate_left
                  · intro w'
                    go_simp
                    with_reducible rfl
                  rotate_left
                  · simp only [Act.put, List.setIfInBounds_toArray, List.set_cons_zero, List.set_cons_succ, i64_w, i32_w]
                    rfl
                  refine one_ (i := 22) (N := some 7) #[true, true, true, true, true, true, true, true, true, true, true, true, true, true, true, true, true, true, true, true, true, true, true, false] rfl rfl (one_of HT_.out (by kernel_rfl)) (by decide) (fun K hK => ?_)
                  refine box_step ?hg (N := 7) ?hd (cs := #[.int .i64 0, .int .i64 0, .int .i64 0, .int .i64 0, .int .i64 0, .int .i64 0]) (t := 27) ?hr ?_; (case hd => rfl); (case hg => rfl); (case hr => first | (go_simp; done) | (go_simp; rfl))
                  intro gb256 hg w19 hbox hb
                  have HS0_ := (hb.cell (World.block_lt_of_cell? _ _ (hHeld.1))).trans (hHeld.1)
                  have HS1_ := (hb.cell (World.block_lt_of_cell? _ _ (hHeld.2.1))).trans (hHeld.2.1)
                  have HS2_ := (hb.cell (World.block_lt_of_cell? _ _ (hHeld.2.2.1))).trans (hHeld.2.2.1)
                  have HS3_ := (hb.cell (World.block_lt_of_cell? _ _ (hHeld.2.2.2.1))).trans (hHeld.2.2.2.1)
                  have HS4_ := (hb.cell (World.block_lt_of_cell? _ _ (hHeld.2.2.2.2.1))).trans (hHeld.2.2.2.2.1)
                  have HS5_ := (hb.cell (World.block_lt_of_cell? _ _ (hHeld.2.2.2.2.2))).trans (hHeld.2.2.2.2.2)
                  have n0_ := Aside0.mk (Kd.R_below (by (with_reducible repeat (first | apply Kd.R_alloc | apply Kd.R_drewN | apply Kd.R_drew)); exact HO244.out) hb)
                  have n1_ := Aside0.mk (Kd.R_below (by (with_reducible repeat (first | apply Kd.R_alloc | apply Kd.R_drewN | apply Kd.R_drew)); exact HO249.out) hb)
                  have n2_ := Aside0.mk (blk_below (g := gb241) (o := .cells #[.int .i64 0, .int .i64 0, .int .i64 0, .int .i64 0, .int .i64 0, .int .i64 0] 27 (0, 0)) (by (with_reducible repeat (first | refine blk_drewN ?_ _ | refine blk_drew ?_ | refine blk_alloc ?_ _)); exact BK241.out) hb)
                  have n3_ := Aside0.mk (below_step (by repeat (first | (with_reducible first | exact HB.out | apply below_alloc | apply pw_below_drewN | apply below_drew1 | refine below_set ?_ GE241.out) | exact HB.out)) hb)
                  have n4_ := Aside0.mk (hbox)
                  have n5_ := Aside0.mk ((by rw [hg]; exact (below_size (by repeat (first | (with_reducible first | exact HB.out | apply below_alloc | apply pw_below_drewN | apply below_drew1 | refine below_set ?_ GE241.out) | exact HB.out))) : w.heap.size ≤ gb256))
                  have n6_ := Aside0.mk ((by rw [hg]; exact (below_size (by repeat (first | (with_reducible first | exact HB.out | apply below_alloc | apply pw_below_drewN | apply below_drew1 | refine below_set ?_ GE241.out) | exact HB.out))) : w.heap.size ≤ gb256))
                  have n7_ := Aside0.mk ((by rw [hg]; exact Nat.ne_of_lt (blk_lt (g := gb241) (o := .cells #[.int .i64 0, .int .i64 0, .int .i64 0, .int .i64 0, .int .i64 0, .int .i64 0] 27 (0, 0)) (by (with_reducible repeat (first | refine blk_drewN ?_ _ | refine blk_drew ?_ | refine blk_alloc ?_ _)); exact BK241.out)) : gb241 ≠ gb256))
                  have n8_ := Aside0.mk ((by rw [hg]; exact Nat.ne_of_gt (blk_lt (g := gb241) (o := .cells #[.int .i64 0, .int .i64 0, .int .i64 0, .int .i64 0, .int .i64 0, .int .i64 0] 27 (0, 0)) (by (with_reducible repeat (first | refine blk_drewN ?_ _ | refine blk_drew ?_ | refine blk_alloc ?_ _)); exact BK241.out)) : gb256 ≠ gb241))
                  clear HO244
                  clear HO249
                  clear BK241
                  clear HB
                  have HO244 := n0_
                  have HO249 := n1_
                  have BK241 := n2_
                  have HB := n3_
                  have BK256 := n4_
                  have GW256 := n5_
                  have GE256 := n6_
                  have NB241_256 := n7_
                  have NB256_241 := n8_
                  clear n0_ n1_ n2_ n3_ n4_ n5_ n6_ n7_ n8_
                  clear hb hbox hg
                  refine hK.out _ _ ⟨HS0_, HS1_, HS2_, HS3_, HS4_, HS5_⟩ (fun hHeld => ?_)
                  clear hK K
                  refine norm_ (a' := ?_) ?_ ?_
                  rotate_left
                  · show Act.put _ (some 7) _ = _
                    simp only [Act.put, List.setIfInBounds_toArray, List.set_cons_zero, List.set_cons_succ, i64_w, i32_w]
                    rfl
                  refine one_ (i := 23) (N := none) #[true, true, true, true, true, true, true, true, true, true, true, true, true, true, true, true, true, true, true, true, true, true, true, true] rfl rfl (one_of HT_.out (by kernel_rfl)) (by decide) (fun K hK => ?_)
                  have hs20 : w19.cell? ⟨gb256, 0, none⟩ = some (.int .i64 0) := (blk_cell BK256.out 0).trans rfl
                  have hfs20 := blk_frozen BK256.out 0
                  have hns20_0 := NB241_256.out
                  have hms20_0 := NB256_241.out
                  have hs21 : w19.cell? ⟨gb256, 1, none⟩ = some (.int .i64 0) := (blk_cell BK256.out 1).trans rfl
                  have hfs21 := blk_frozen BK256.out 1
                  have hns21_0 := NB241_256.out
                  have hms21_0 := NB256_241.out
                  have hs22 : w19.cell? ⟨gb256, 2, none⟩ = some (.int .i64 0) := (blk_cell BK256.out 2).trans rfl
                  have hfs22 := blk_frozen BK256.out 2
                  have hns22_0 := NB241_256.out
                  have hms22_0 := NB256_241.out
                  have hs23 : w19.cell? ⟨gb256, 3, none⟩ = some (.int .i64 0) := (blk_cell BK256.out 3).trans rfl
                  have hfs23 := blk_frozen BK256.out 3
                  have hns23_0 := NB241_256.out
                  have hms23_0 := NB256_241.out
                  have hs24 : w19.cell? ⟨gb256, 4, none⟩ = some (.int .i64 0) := (blk_cell BK256.out 4).trans rfl
                  have hfs24 := blk_frozen BK256.out 4
                  have hns24_0 := NB241_256.out
                  have hms24_0 := NB256_241.out
                  have hs25 : w19.cell? ⟨gb256, 5, none⟩ = some (.int .i64 0) := (blk_cell BK256.out 5).trans rfl
                  have hfs25 := blk_frozen BK256.out 5
                  have hns25_0 := NB241_256.out
                  have hms25_0 := NB256_241.out
                  refine skip_ (w1 := ?_) (by rfl) rfl ?_ ?_
                  rotate_left
                  · go_simp
                    rfl
                  refine hK.out _ _ ⟨((cell_far (p := ⟨gb256, _, none⟩) (by first | exact Kd.own_blk (Kd.R_ne HO249.out BK256.out (by decide)) | (rw [add_block]; exact Kd.own_blk (Kd.R_ne HO249.out BK256.out (by decide))) | (show (Addr.add _ _).block ≠ _; rw [add_block]; exact Kd.own_blk (Kd.R_ne HO249.out BK256.out (by decide))) | (dsimp only; exact Kd.own_blk (Kd.R_ne HO249.out BK256.out (by decide)))) _).trans (((cell_far (p := ⟨gb256, _, none⟩) (by first | exact Kd.own_blk (Kd.R_ne HO249.out BK256.out (by decide)) | (rw [add_block]; exact Kd.own_blk (Kd.R_ne HO249.out BK256.out (by decide))) | (show (Addr.add _ _).block ≠ _; rw [add_block]; exact Kd.own_blk (Kd.R_ne HO249.out BK256.out (by decide))) | (dsimp only; exact Kd.own_blk (Kd.R_ne HO249.out BK256.out (by decide)))) _).trans (((cell_far (p := ⟨gb256, _, none⟩) (by first | exact Kd.own_blk (Kd.R_ne HO249.out BK256.out (by decide)) | (rw [add_block]; exact Kd.own_blk (Kd.R_ne HO249.out BK256.out (by decide))) | (show (Addr.add _ _).block ≠ _; rw [add_block]; exact Kd.own_blk (Kd.R_ne HO249.out BK256.out (by decide))) | (dsimp only; exact Kd.own_blk (Kd.R_ne HO249.out BK256.out (by decide)))) _).trans (((cell_far (p := ⟨gb256, _, none⟩) (by first | exact Kd.own_blk (Kd.R_ne HO249.out BK256.out (by decide)) | (rw [add_block]; exact Kd.own_blk (Kd.R_ne HO249.out BK256.out (by decide))) | (show (Addr.add _ _).block ≠ _; rw [add_block]; exact Kd.own_blk (Kd.R_ne HO249.out BK256.out (by decide))) | (dsimp only; exact Kd.own_blk (Kd.R_ne HO249.out BK256.out (by decide)))) _).trans (((cell_far (p := ⟨gb256, _, none⟩) (by first | exact Kd.own_blk (Kd.R_ne HO249.out BK256.out (by decide)) | (rw [add_block]; exact Kd.own_blk (Kd.R_ne HO249.out BK256.out (by decide))) | (show (Addr.add _ _).block ≠ _; rw [add_block]; exact Kd.own_blk (Kd.R_ne HO249.out BK256.out (by decide))) | (dsimp only; exact Kd.own_blk (Kd.R_ne HO249.out BK256.out (by decide)))) _).trans (((cell_far (p := ⟨gb256, _, none⟩) (by first | exact Kd.own_blk (Kd.R_ne HO249.out BK256.out (by decide)) | (rw [add_block]; exact Kd.own_blk (Kd.R_ne HO249.out BK256.out (by decide))) | (show (Addr.add _ _).block ≠ _; rw [add_block]; exact Kd.own_blk (Kd.R_ne HO249.out BK256.out (by decide))) | (dsimp only; exact Kd.own_blk (Kd.R_ne HO249.out BK256.out (by decide)))) _).trans (hHeld.1)))))))))))), ((cell_far (p := ⟨gb256, _, none⟩) (by first | exact Kd.own_blk (Kd.R_ne HO249.out BK256.out (by decide)) | (rw [add_block]; exact Kd.own_blk (Kd.R_ne HO249.out BK256.out (by decide))) | (show (Addr.add _ _).block ≠ _; rw [add_block]; exact Kd.own_blk (Kd.R_ne HO249.out BK256.out (by decide))) | (dsimp only; exact Kd.own_blk (Kd.R_ne HO249.out BK256.out (by decide)))) _).trans (((cell_far (p := ⟨gb256, _, none⟩) (by first | exact Kd.own_blk (Kd.R_ne HO249.out BK256.out (by decide)) | (rw [add_block]; exact Kd.own_blk (Kd.R_ne HO249.out BK256.out (by decide))) | (show (Addr.add _ _).block ≠ _; rw [add_block]; exact Kd.own_blk (Kd.R_ne HO249.out BK256.out (by decide))) | (dsimp only; exact Kd.own_blk (Kd.R_ne HO249.out BK256.out (by decide)))) _).trans (((cell_far (p := ⟨gb256, _, none⟩) (by first | exact Kd.own_blk (Kd.R_ne HO249.out BK256.out (by decide)) | (rw [add_block]; exact Kd.own_blk (Kd.R_ne HO249.out BK256.out (by decide))) | (show (Addr.add _ _).block ≠ _; rw [add_block]; exact Kd.own_blk (Kd.R_ne HO249.out BK256.out (by decide))) | (dsimp only; exact Kd.own_blk (Kd.R_ne HO249.out BK256.out (by decide)))) _).trans (((cell_far (p := ⟨gb256, _, none⟩) (by first | exact Kd.own_blk (Kd.R_ne HO249.out BK256.out (by decide)) | (rw [add_block]; exact Kd.own_blk (Kd.R_ne HO249.out BK256.out (by decide))) | (show (Addr.add _ _).block ≠ _; rw [add_block]; exact Kd.own_blk (Kd.R_ne HO249.out BK256.out (by decide))) | (dsimp only; exact Kd.own_blk (Kd.R_ne HO249.out BK256.out (by decide)))) _).trans (((cell_far (p := ⟨gb256, _, none⟩) (by first | exact Kd.own_blk (Kd.R_ne HO249.out BK256.out (by decide)) | (rw [add_block]; exact Kd.own_blk (Kd.R_ne HO249.out BK256.out (by decide))) | (show (Addr.add _ _).block ≠ _; rw [add_block]; exact Kd.own_blk (Kd.R_ne HO249.out BK256.out (by decide))) | (dsimp only; exact Kd.own_blk (Kd.R_ne HO249.out BK256.out (by decide)))) _).trans (((cell_far (p := ⟨gb256, _, none⟩) (by first | exact Kd.own_blk (Kd.R_ne HO249.out BK256.out (by decide)) | (rw [add_block]; exact Kd.own_blk (Kd.R_ne HO249.out BK256.out (by decide))) | (show (Addr.add _ _).block ≠ _; rw [add_block]; exact Kd.own_blk (Kd.R_ne HO249.out BK256.out (by decide))) | (dsimp only; exact Kd.own_blk (Kd.R_ne HO249.out BK256.out (by decide)))) _).trans (hHeld.2.1)))))))))))), ((cell_far (p := ⟨gb256, _, none⟩) (by first | exact Kd.own_blk (Kd.R_ne HO249.out BK256.out (by decide)) | (rw [add_block]; exact Kd.own_blk (Kd.R_ne HO249.out BK256.out (by decide))) | (show (Addr.add _ _).block ≠ _; rw [add_block]; exact Kd.own_blk (Kd.R_ne HO249.out BK256.out (by decide))) | (dsimp only; exact Kd.own_blk (Kd.R_ne HO249.out BK256.out (by decide)))) _).trans (((cell_far (p := ⟨gb256, _, none⟩) (by first | exact Kd.own_blk (Kd.R_ne HO249.out BK256.out (by decide)) | (rw [add_block]; exact Kd.own_blk (Kd.R_ne HO249.out BK256.out (by decide))) | (show (Addr.add _ _).block ≠ _; rw [add_block]; exact Kd.own_blk (Kd.R_ne HO249.out BK256.out (by decide))) | (dsimp only; exact Kd.own_blk (Kd.R_ne HO249.out BK256.out (by decide)))) _).trans (((cell_far (p := ⟨gb256, _, none⟩) (by first | exact Kd.own_blk (Kd.R_ne HO249.out BK256.out (by decide)) | (rw [add_block]; exact Kd.own_blk (Kd.R_ne HO249.out BK256.out (by decide))) | (show (Addr.add _ _).block ≠ _; rw [add_block]; exact Kd.own_blk (Kd.R_ne HO249.out BK256.out (by decide))) | (dsimp only; exact Kd.own_blk (Kd.R_ne HO249.out BK256.out (by decide)))) _).trans (((cell_far (p := ⟨gb256, _, none⟩) (by first | exact Kd.own_blk (Kd.R_ne HO249.out BK256.out (by decide)) | (rw [add_block]; exact Kd.own_blk (Kd.R_ne HO249.out BK256.out (by decide))) | (show (Addr.add _ _).block ≠ _; rw [add_block]; exact Kd.own_blk (Kd.R_ne HO249.out BK256.out (by decide))) | (dsimp only; exact Kd.own_blk (Kd.R_ne HO249.out BK256.out (by decide)))) _).trans (((cell_far (p := ⟨gb256, _, none⟩) (by first | exact Kd.own_blk (Kd.R_ne HO249.out BK256.out (by decide)) | (rw [add_block]; exact Kd.own_blk (Kd.R_ne HO249.out BK256.out (by decide))) | (show (Addr.add _ _).block ≠ _; rw [add_block]; exact Kd.own_blk (Kd.R_ne HO249.out BK256.out (by decide))) | (dsimp only; exact Kd.own_blk (Kd.R_ne HO249.out BK256.out (by decide)))) _).trans (((cell_far (p := ⟨gb256, _, none⟩) (by first | exact Kd.own_blk (Kd.R_ne HO249.out BK256.out (by decide)) | (rw [add_block]; exact Kd.own_blk (Kd.R_ne HO249.out BK256.out (by decide))) | (show (Addr.add _ _).block ≠ _; rw [add_block]; exact Kd.own_blk (Kd.R_ne HO249.out BK256.out (by decide))) | (dsimp only; exact Kd.own_blk (Kd.R_ne HO249.out BK256.out (by decide)))) _).trans (hHeld.2.2.1)))))))))))), ((cell_far (p := ⟨gb256, _, none⟩) (by first | exact Kd.own_blk (Kd.R_ne HO249.out BK256.out (by decide)) | (rw [add_block]; exact Kd.own_blk (Kd.R_ne HO249.out BK256.out (by decide))) | (show (Addr.add _ _).block ≠ _; rw [add_block]; exact Kd.own_blk (Kd.R_ne HO249.out BK256.out (by decide))) | (dsimp only; exact Kd.own_blk (Kd.R_ne HO249.out BK256.out (by decide)))) _).trans (((cell_far (p := ⟨gb256, _, none⟩) (by first | exact Kd.own_blk (Kd.R_ne HO249.out BK256.out (by decide)) | (rw [add_block]; exact Kd.own_blk (Kd.R_ne HO249.out BK256.out (by decide))) | (show (Addr.add _ _).block ≠ _; rw [add_block]; exact Kd.own_blk (Kd.R_ne HO249.out BK256.out (by decide))) | (dsimp only; exact Kd.own_blk (Kd.R_ne HO249.out BK256.out (by decide)))) _).trans (((cell_far (p := ⟨gb256, _, none⟩) (by first | exact Kd.own_blk (Kd.R_ne HO249.out BK256.out (by decide)) | (rw [add_block]; exact Kd.own_blk (Kd.R_ne HO249.out BK256.out (by decide))) | (show (Addr.add _ _).block ≠ _; rw [add_block]; exact Kd.own_blk (Kd.R_ne HO249.out BK256.out (by decide))) | (dsimp only; exact Kd.own_blk (Kd.R_ne HO249.out BK256.out (by decide)))) _).trans (((cell_far (p := ⟨gb256, _, none⟩) (by first | exact Kd.own_blk (Kd.R_ne HO249.out BK256.out (by decide)) | (rw [add_block]; exact Kd.own_blk (Kd.R_ne HO249.out BK256.out (by decide))) | (show (Addr.add _ _).block ≠ _; rw [add_block]; exact Kd.own_blk (Kd.R_ne HO249.out BK256.out (by decide))) | (dsimp only; exact Kd.own_blk (Kd.R_ne HO249.out BK256.out (by decide)))) _).trans (((cell_far (p := ⟨gb256, _, none⟩) (by first | exact Kd.own_blk (Kd.R_ne HO249.out BK256.out (by decide)) | (rw [add_block]; exact Kd.own_blk (Kd.R_ne HO249.out BK256.out (by decide))) | (show (Addr.add _ _).block ≠ _; rw [add_block]; exact Kd.own_blk (Kd.R_ne HO249.out BK256.out (by decide))) | (dsimp only; exact Kd.own_blk (Kd.R_ne HO249.out BK256.out (by decide)))) _).trans (((cell_far (p := ⟨gb256, _, none⟩) (by first | exact Kd.own_blk (Kd.R_ne HO249.out BK256.out (by decide)) | (rw [add_block]; exact Kd.own_blk (Kd.R_ne HO249.out BK256.out (by decide))) | (show (Addr.add _ _).block ≠ _; rw [add_block]; exact Kd.own_blk (Kd.R_ne HO249.out BK256.out (by decide))) | (dsimp only; exact Kd.own_blk (Kd.R_ne HO249.out BK256.out (by decide)))) _).trans (hHeld.2.2.2.1)))))))))))), ((cell_far (p := ⟨gb256, _, none⟩) (by first | exact Kd.own_blk (Kd.R_ne HO249.out BK256.out (by decide)) | (rw [add_block]; exact Kd.own_blk (Kd.R_ne HO249.out BK256.out (by decide))) | (show (Addr.add _ _).block ≠ _; rw [add_block]; exact Kd.own_blk (Kd.R_ne HO249.out BK256.out (by decide))) | (dsimp only; exact Kd.own_blk (Kd.R_ne HO249.out BK256.out (by decide)))) _).trans (((cell_far (p := ⟨gb256, _, none⟩) (by first | exact Kd.own_blk (Kd.R_ne HO249.out BK256.out (by decide)) | (rw [add_block]; exact Kd.own_blk (Kd.R_ne HO249.out BK256.out (by decide))) | (show (Addr.add _ _).block ≠ _; rw [add_block]; exact Kd.own_blk (Kd.R_ne HO249.out BK256.out (by decide))) | (dsimp only; exact Kd.own_blk (Kd.R_ne HO249.out BK256.out (by decide)))) _).trans (((cell_far (p := ⟨gb256, _, none⟩) (by first | exact Kd.own_blk (Kd.R_ne HO249.out BK256.out (by decide)) | (rw [add_block]; exact Kd.own_blk (Kd.R_ne HO249.out BK256.out (by decide))) | (show (Addr.add _ _).block ≠ _; rw [add_block]; exact Kd.own_blk (Kd.R_ne HO249.out BK256.out (by decide))) | (dsimp only; exact Kd.own_blk (Kd.R_ne HO249.out BK256.out (by decide)))) _).trans (((cell_far (p := ⟨gb256, _, none⟩) (by first | exact Kd.own_blk (Kd.R_ne HO249.out BK256.out (by decide)) | (rw [add_block]; exact Kd.own_blk (Kd.R_ne HO249.out BK256.out (by decide))) | (show (Addr.add _ _).block ≠ _; rw [add_block]; exact Kd.own_blk (Kd.R_ne HO249.out BK256.out (by decide))) | (dsimp only; exact Kd.own_blk (Kd.R_ne HO249.out BK256.out (by decide)))) _).trans (((cell_far (p := ⟨gb256, _, none⟩) (by first | exact Kd.own_blk (Kd.R_ne HO249.out BK256.out (by decide)) | (rw [add_block]; exact Kd.own_blk (Kd.R_ne HO249.out BK256.out (by decide))) | (show (Addr.add _ _).block ≠ _; rw [add_block]; exact Kd.own_blk (Kd.R_ne HO249.out BK256.out (by decide))) | (dsimp only; exact Kd.own_blk (Kd.R_ne HO249.out BK256.out (by decide)))) _).trans (((cell_far (p := ⟨gb256, _, none⟩) (by first | exact Kd.own_blk (Kd.R_ne HO249.out BK256.out (by decide)) | (rw [add_block]; exact Kd.own_blk (Kd.R_ne HO249.out BK256.out (by decide))) | (show (Addr.add _ _).block ≠ _; rw [add_block]; exact Kd.own_blk (Kd.R_ne HO249.out BK256.out (by decide))) | (dsimp only; exact Kd.own_blk (Kd.R_ne HO249.out BK256.out (by decide)))) _).trans (hHeld.2.2.2.2.1)))))))))))), ((cell_far (p := ⟨gb256, _, none⟩) (by first | exact Kd.own_blk (Kd.R_ne HO249.out BK256.out (by decide)) | (rw [add_block]; exact Kd.own_blk (Kd.R_ne HO249.out BK256.out (by decide))) | (show (Addr.add _ _).block ≠ _; rw [add_block]; exact Kd.own_blk (Kd.R_ne HO249.out BK256.out (by decide))) | (dsimp only; exact Kd.own_blk (Kd.R_ne HO249.out BK256.out (by decide)))) _).trans (((cell_far (p := ⟨gb256, _, none⟩) (by first | exact Kd.own_blk (Kd.R_ne HO249.out BK256.out (by decide)) | (rw [add_block]; exact Kd.own_blk (Kd.R_ne HO249.out BK256.out (by decide))) | (show (Addr.add _ _).block ≠ _; rw [add_block]; exact Kd.own_blk (Kd.R_ne HO249.out BK256.out (by decide))) | (dsimp only; exact Kd.own_blk (Kd.R_ne HO249.out BK256.out (by decide)))) _).trans (((cell_far (p := ⟨gb256, _, none⟩) (by first | exact Kd.own_blk (Kd.R_ne HO249.out BK256.out (by decide)) | (rw [add_block]; exact Kd.own_blk (Kd.R_ne HO249.out BK256.out (by decide))) | (show (Addr.add _ _).block ≠ _; rw [add_block]; exact Kd.own_blk (Kd.R_ne HO249.out BK256.out (by decide))) | (dsimp only; exact Kd.own_blk (Kd.R_ne HO249.out BK256.out (by decide)))) _).trans (((cell_far (p := ⟨gb256, _, none⟩) (by first | exact Kd.own_blk (Kd.R_ne HO249.out BK256.out (by decide)) | (rw [add_block]; exact Kd.own_blk (Kd.R_ne HO249.out BK256.out (by decide))) | (show (Addr.add _ _).block ≠ _; rw [add_block]; exact Kd.own_blk (Kd.R_ne HO249.out BK256.out (by decide))) | (dsimp only; exact Kd.own_blk (Kd.R_ne HO249.out BK256.out (by decide)))) _).trans (((cell_far (p := ⟨gb256, _, none⟩) (by first | exact Kd.own_blk (Kd.R_ne HO249.out BK256.out (by decide)) | (rw [add_block]; exact Kd.own_blk (Kd.R_ne HO249.out BK256.out (by decide))) | (show (Addr.add _ _).block ≠ _; rw [add_block]; exact Kd.own_blk (Kd.R_ne HO249.out BK256.out (by decide))) | (dsimp only; exact Kd.own_blk (Kd.R_ne HO249.out BK256.out (by decide)))) _).trans (((cell_far (p := ⟨gb256, _, none⟩) (by first | exact Kd.own_blk (Kd.R_ne HO249.out BK256.out (by decide)) | (rw [add_block]; exact Kd.own_blk (Kd.R_ne HO249.out BK256.out (by decide))) | (show (Addr.add _ _).block ≠ _; rw [add_block]; exact Kd.own_blk (Kd.R_ne HO249.out BK256.out (by decide))) | (dsimp only; exact Kd.own_blk (Kd.R_ne HO249.out BK256.out (by decide)))) _).trans (hHeld.2.2.2.2.2))))))))))))⟩ (fun hHeld => ?_)
                  clear hK K
                  refine done_ (done_of HT_.out (by kernel_rfl)) ?_
                  have hnb26 := NB256_241.out
                  have hnc26 := NB241_256.out
                  have hcz27_0 : w19.cell? ⟨gb256, 0, none⟩ = some (.int .i64 0) := (blk_cell BK256.out 0).trans rfl
                  have hcz27_1 : w19.cell? ⟨gb256, 1, none⟩ = some (.int .i64 0) := (blk_cell BK256.out 1).trans rfl
                  have hcz27_2 : w19.cell? ⟨gb256, 2, none⟩ = some (.int .i64 0) := (blk_cell BK256.out 2).trans rfl
                  have hcz27_3 : w19.cell? ⟨gb256, 3, none⟩ = some (.int .i64 0) := (blk_cell BK256.out 3).trans rfl
                  have hcz27_4 : w19.cell? ⟨gb256, 4, none⟩ = some (.int .i64 0) := (blk_cell BK256.out 4).trans rfl
                  have hcz27_5 : w19.cell? ⟨gb256, 5, none⟩ = some (.int .i64 0) := (blk_cell BK256.out 5).trans rfl
                  have hfz27_0 := blk_frozen BK256.out 0
                  have hfz27_1 := blk_frozen BK256.out 1
                  have hfz27_2 := blk_frozen BK256.out 2
                  have hfz27_3 := blk_frozen BK256.out 3
                  have hfz27_4 := blk_frozen BK256.out 4
                  have hfz27_5 := blk_frozen BK256.out 5
                  try go_wp2_with (first | ((with_reducible refine gate_callee (f := 20) rfl ?_); refine goesL_ (some 43) rfl rfl Try.func20 (by kernel_rfl) rfl #[.agg #[.int .i64 (rd t245 0), .int .i64 (rd t245 1), .int .i64 (wrap64 ((rd t245 2) - 1)), .int .i64 (rd t245 3), .int .i64 (rd t245 4), .int .i64 (rd t245 5)]] rfl (by (try simp only [List.map_toArray, List.map_cons, List.map_nil]); first | done | rfl | (simp only [List.length_drop, List.length_take]; rfl)) ?_; (with_reducible refine (wayfinderref04_May.calls k (rd t245 0) (rd t245 1) (wrap64 ((rd t245 2) - 1)) (rd t245 3) (rd t245 4) (rd t245 5) true _ A10.out).mono ?_); rintro e w28 ⟨rfl, hb⟩; refine ⟨_, rfl, ?_⟩; have n0_ := Aside0.mk (Kd.R_below (by (with_reducible repeat (first | apply Kd.R_alloc | apply Kd.R_drewN | apply Kd.R_drew)); exact (Kd.R_mono (Kd.R_far (p := ⟨gb256, 5, none⟩) (Kd.R_far (p := ⟨gb256, 4, none⟩) (Kd.R_far (p := ⟨gb256, 3, none⟩) (Kd.R_far (p := ⟨gb256, 2, none⟩) (Kd.R_far (p := ⟨gb256, 1, none⟩) (Kd.R_far (p := ⟨gb256, 0, none⟩) (Kd.R_types HO244.out BK256.out (by decide)) (fun _ hk => hk.2) (.int .i64 (rd t245 0))) (fun _ hk => hk.2) (.int .i64 (rd t245 1))) (fun _ hk => hk.2) (.int .i64 (wrap64 ((rd t245 2) - 1)))) (fun _ hk => hk.2) (.int .i64 (rd t245 3))) (fun _ hk => hk.2) (.int .i64 (rd t245 4))) (fun _ hk => hk.2) (.int .i64 (rd t245 5))) (fun _ h_ => h_.1))) hb); have n1_ := Aside0.mk (Kd.R_below (by (with_reducible repeat (first | apply Kd.R_alloc | apply Kd.R_drewN | apply Kd.R_drew)); exact (Kd.R_mono (Kd.R_far (p := ⟨gb256, 5, none⟩) (Kd.R_far (p := ⟨gb256, 4, none⟩) (Kd.R_far (p := ⟨gb256, 3, none⟩) (Kd.R_far (p := ⟨gb256, 2, none⟩) (Kd.R_far (p := ⟨gb256, 1, none⟩) (Kd.R_far (p := ⟨gb256, 0, none⟩) (Kd.R_types HO249.out BK256.out (by decide)) (fun _ hk => hk.2) (.int .i64 (rd t245 0))) (fun _ hk => hk.2) (.int .i64 (rd t245 1))) (fun _ hk => hk.2) (.int .i64 (wrap64 ((rd t245 2) - 1)))) (fun _ hk => hk.2) (.int .i64 (rd t245 3))) (fun _ hk => hk.2) (.int .i64 (rd t245 4))) (fun _ hk => hk.2) (.int .i64 (rd t245 5))) (fun _ h_ => h_.1))) hb); have n2_ := Aside0.mk (blk_below (g := gb241) (o := .cells #[.int .i64 0, .int .i64 0, .int .i64 0, .int .i64 0, .int .i64 0, .int .i64 0] 27 (0, 0)) (by (with_reducible repeat (first | refine blk_drewN ?_ _ | refine blk_drew ?_ | refine blk_alloc ?_ _)); refine blk_far ?_ NB241_256.out _; (with_reducible repeat (first | refine blk_drewN ?_ _ | refine blk_drew ?_ | refine blk_alloc ?_ _)); refine blk_far ?_ NB241_256.out _; (with_reducible repeat (first | refine blk_drewN ?_ _ | refine blk_drew ?_ | refine blk_alloc ?_ _)); refine blk_far ?_ NB241_256.out _; (with_reducible repeat (first | refine blk_drewN ?_ _ | refine blk_drew ?_ | refine blk_alloc ?_ _)); refine blk_far ?_ NB241_256.out _; (with_reducible repeat (first | refine blk_drewN ?_ _ | refine blk_drew ?_ | refine blk_alloc ?_ _)); refine blk_far ?_ NB241_256.out _; (with_reducible repeat (first | refine blk_drewN ?_ _ | refine blk_drew ?_ | refine blk_alloc ?_ _)); refine blk_far ?_ NB241_256.out _; (with_reducible repeat (first | refine blk_drewN ?_ _ | refine blk_drew ?_ | refine blk_alloc ?_ _)); exact BK241.out) hb); have n3_ := Aside0.mk (blk_below (g := gb256) (o := .cells #[.int .i64 (rd t245 0), .int .i64 (rd t245 1), .int .i64 (wrap64 ((rd t245 2) - 1)), .int .i64 (rd t245 3), .int .i64 (rd t245 4), .int .i64 (rd t245 5)] 27 (0, 0)) (by (with_reducible repeat (first | refine blk_drewN ?_ _ | refine blk_drew ?_ | refine blk_alloc ?_ _)); refine blk_put (cs := #[.int .i64 (rd t245 0), .int .i64 (rd t245 1), .int .i64 (wrap64 ((rd t245 2) - 1)), .int .i64 (rd t245 3), .int .i64 (rd t245 4), .int .i64 0]) ?_ 5 _ rfl; (with_reducible repeat (first | refine blk_drewN ?_ _ | refine blk_drew ?_ | refine blk_alloc ?_ _)); refine blk_put (cs := #[.int .i64 (rd t245 0), .int .i64 (rd t245 1), .int .i64 (wrap64 ((rd t245 2) - 1)), .int .i64 (rd t245 3), .int .i64 0, .int .i64 0]) ?_ 4 _ rfl; (with_reducible repeat (first | refine blk_drewN ?_ _ | refine blk_drew ?_ | refine blk_alloc ?_ _)); refine blk_put (cs := #[.int .i64 (rd t245 0), .int .i64 (rd t245 1), .int .i64 (wrap64 ((rd t245 2) - 1)), .int .i64 0, .int .i64 0, .int .i64 0]) ?_ 3 _ rfl; (with_reducible repeat (first | refine blk_drewN ?_ _ | refine blk_drew ?_ | refine blk_alloc ?_ _)); refine blk_put (cs := #[.int .i64 (rd t245 0), .int .i64 (rd t245 1), .int .i64 0, .int .i64 0, .int .i64 0, .int .i64 0]) ?_ 2 _ rfl; (with_reducible repeat (first | refine blk_drewN ?_ _ | refine blk_drew ?_ | refine blk_alloc ?_ _)); refine blk_put (cs := #[.int .i64 (rd t245 0), .int .i64 0, .int .i64 0, .int .i64 0, .int .i64 0, .int .i64 0]) ?_ 1 _ rfl; (with_reducible repeat (first | refine blk_drewN ?_ _ | refine blk_drew ?_ | refine blk_alloc ?_ _)); refine blk_put (cs := #[.int .i64 0, .int .i64 0, .int .i64 0, .int .i64 0, .int .i64 0, .int .i64 0]) ?_ 0 _ rfl; (with_reducible repeat (first | refine blk_drewN ?_ _ | refine blk_drew ?_ | refine blk_alloc ?_ _)); exact BK256.out) hb); have n4_ := Aside0.mk (below_step (by repeat (first | (with_reducible first | exact HB.out | apply below_alloc | apply pw_below_drewN | apply below_drew1 | refine below_set ?_ GE241.out | refine below_set ?_ GE256.out) | exact HB.out)) hb); clear HO244; clear HO249; clear BK241; clear BK256; clear HB; have HO244 := n0_; have HO249 := n1_; have BK241 := n2_; have BK256 := n3_; have HB := n4_; clear n0_ n1_ n2_ n3_ n4_; (try clear hb); (try clear hb2); (try clear hk); (try clear hi); have hcz29_0 : w28.cell? ⟨gb256, 0, none⟩ = some (.int .i64 (rd t245 0)) := (blk_cell BK256.out 0).trans rfl; have hcz29_1 : w28.cell? ⟨gb256, 1, none⟩ = some (.int .i64 (rd t245 1)) := (blk_cell BK256.out 1).trans rfl; have hcz29_2 : w28.cell? ⟨gb256, 2, none⟩ = some (.int .i64 (wrap64 ((rd t245 2) - 1))) := (blk_cell BK256.out 2).trans rfl; have hcz29_3 : w28.cell? ⟨gb256, 3, none⟩ = some (.int .i64 (rd t245 3)) := (blk_cell BK256.out 3).trans rfl; have hcz29_4 : w28.cell? ⟨gb256, 4, none⟩ = some (.int .i64 (rd t245 4)) := (blk_cell BK256.out 4).trans rfl; have hcz29_5 : w28.cell? ⟨gb256, 5, none⟩ = some (.int .i64 (rd t245 5)) := (blk_cell BK256.out 5).trans rfl; have hfz29_0 := blk_frozen BK256.out 0; have hfz29_1 := blk_frozen BK256.out 1; have hfz29_2 := blk_frozen BK256.out 2; have hfz29_3 := blk_frozen BK256.out 3; have hfz29_4 := blk_frozen BK256.out 4; have hfz29_5 := blk_frozen BK256.out 5; have hcz30_0 : w28.cell? ⟨gb241, 0, none⟩ = some (.int .i64 0) := (blk_cell BK241.out 0).trans rfl; have hcz30_1 : w28.cell? ⟨gb241, 1, none⟩ = some (.int .i64 0) := (blk_cell BK241.out 1).trans rfl; have hcz30_2 : w28.cell? ⟨gb241, 2, none⟩ = some (.int .i64 0) := (blk_cell BK241.out 2).trans rfl; have hcz30_3 : w28.cell? ⟨gb241, 3, none⟩ = some (.int .i64 0) := (blk_cell BK241.out 3).trans rfl; have hcz30_4 : w28.cell? ⟨gb241, 4, none⟩ = some (.int .i64 0) := (blk_cell BK241.out 4).trans rfl; have hcz30_5 : w28.cell? ⟨gb241, 5, none⟩ = some (.int .i64 0) := (blk_cell BK241.out 5).trans rfl; have hfz30_0 := blk_frozen BK241.out 0; have hfz30_1 := blk_frozen BK241.out 1; have hfz30_2 := blk_frozen BK241.out 2; have hfz30_3 := blk_frozen BK241.out 3; have hfz30_4 := blk_frozen BK241.out 4; have hfz30_5 := blk_frozen BK241.out 5))
                  refine bodyPost_ret (results_ct rfl _ _ gb241 27 #[.int .i64 (rd t245 0), .int .i64 (rd t245 1), .int .i64 (wrap64 ((rd t245 2) - 1)), .int .i64 (rd t245 3), .int .i64 (rd t245 4), .int .i64 (rd t245 5)] (0, 0) _ rfl (by (with_reducible repeat (first | refine blk_drewN ?_ _ | refine blk_drew ?_ | refine blk_alloc ?_ _)); refine blk_put (cs := #[.int .i64 (rd t245 0), .int .i64 (rd t245 1), .int .i64 (wrap64 ((rd t245 2) - 1)), .int .i64 (rd t245 3), .int .i64 (rd t245 4), .int .i64 0]) ?_ 5 _ rfl; (with_reducible repeat (first | refine blk_drewN ?_ _ | refine blk_drew ?_ | refine blk_alloc ?_ _)); refine blk_put (cs := #[.int .i64 (rd t245 0), .int .i64 (rd t245 1), .int .i64 (wrap64 ((rd t245 2) - 1)), .int .i64 (rd t245 3), .int .i64 0, .int .i64 0]) ?_ 4 _ rfl; (with_reducible repeat (first | refine blk_drewN ?_ _ | refine blk_drew ?_ | refine blk_alloc ?_ _)); refine blk_put (cs := #[.int .i64 (rd t245 0), .int .i64 (rd t245 1), .int .i64 (wrap64 ((rd t245 2) - 1)), .int .i64 0, .int .i64 0, .int .i64 0]) ?_ 3 _ rfl; (with_reducible repeat (first | refine blk_drewN ?_ _ | refine blk_drew ?_ | refine blk_alloc ?_ _)); refine blk_put (cs := #[.int .i64 (rd t245 0), .int .i64 (rd t245 1), .int .i64 0, .int .i64 0, .int .i64 0, .int .i64 0]) ?_ 2 _ rfl; (with_reducible repeat (first | refine blk_drewN ?_ _ | refine blk_drew ?_ | refine blk_alloc ?_ _)); refine blk_put (cs := #[.int .i64 (rd t245 0), .int .i64 0, .int .i64 0, .int .i64 0, .int .i64 0, .int .i64 0]) ?_ 1 _ rfl; (with_reducible repeat (first | refine blk_drewN ?_ _ | refine blk_drew ?_ | refine blk_alloc ?_ _)); refine blk_put (cs := #[.int .i64 0, .int .i64 0, .int .i64 0, .int .i64 0, .int .i64 0, .int .i64 0]) ?_ 0 _ rfl; (with_reducible repeat (first | refine blk_drewN ?_ _ | refine blk_drew ?_ | refine blk_alloc ?_ _)); exact BK241.out) Try.underlying27 rfl (by kernel_rfl)) rfl ?_
                  exact ⟨by first | rfl | (simp [errW_none, errW_some] <;> rfl) | (simp [*, errW_none, errW_some] <;> rfl), by repeat (first | (with_reducible first | exact HB.out | apply below_alloc | apply pw_below_drewN | apply below_drew1 | refine below_set ?_ GE241.out | refine below_set ?_ GE256.out) | exact HB.out)⟩
                · replace c11 := Bool.eq_false_iff.mpr c11
                  subst c11
                  have H1 : (some (0, 0, 0, 0, 0, 0, 2)) = some (r1, r2, r3, r4, r5, r6, r7) := by rw [if_neg (show ¬ (false = true) by decide)] at H; exact H
                  clear H
                  have H := H1
                  clear H1
                  simp only [Option.some.injEq, Prod.mk.injEq] at H
                  obtain ⟨rfl, rfl, rfl, rfl, rfl, rfl, rfl⟩ := H
                  go_enter Try.func26, Try.ntmps26
                  try go_wp2_with (first | ((with_reducible refine gate_dst (N := 2) rfl ?_); refine box_event ?hg (N := 2) ?hd (cs := #[.int .i64 0, .int .i64 0, .int .i64 0, .int .i64 0, .int .i64 0, .int .i64 0]) (t := 27) ?hr ?_; (case hd => rfl); (case hg => rfl); (case hr => first | (go_simp; done) | (go_simp; rfl)); intro gb241 hg w31 hbox hb; have n0_ := Aside0.mk (below_step (by repeat (first | (with_reducible first | exact HB.out | apply below_alloc | apply pw_below_drewN | apply below_drew1) | exact HB.out)) hb); have n1_ := Aside0.mk (hbox); have n2_ := Aside0.mk ((by rw [hg]; exact (below_size (by repeat (first | (with_reducible first | exact HB.out | apply below_alloc | apply pw_below_drewN | apply below_drew1) | exact HB.out))) : w.heap.size ≤ gb241)); have n3_ := Aside0.mk ((by rw [hg]; exact (below_size (by repeat (first | (with_reducible first | exact HB.out | apply below_alloc | apply pw_below_drewN | apply below_drew1) | exact HB.out))) : w.heap.size ≤ gb241)); clear HB; have HB := n0_; have BK241 := n1_; have GW241 := n2_; have GE241 := n3_; clear n0_ n1_ n2_ n3_; clear hb hbox hg) | ((with_reducible refine gate_dst (N := 11) rfl ?_); refine Kd.R_lit (Kd.int .i64) _ 3 ?hg (N := 11) ?hd (xs := ([4, 1, 1, 1, 1, 1] : List Int)) (inner := [.int .i64 4, .int .i64 1, .int .i64 1, .int .i64 1, .int .i64 1, .int .i64 1]) (ok := fun _ => True) (okp := fun _ => True) ?hr ?hp (fun _ hk => hk) trivial (Below.refl _ _) (Nat.le_refl _) (by simp) ?_; (case hd => rfl); (case hg => rfl); (case hr => first | (go_simp; done) | (go_simp; rfl)); (case hp => exact (Reps.one (show Kd.M (Kd.int .i64) _ _ _ 4 [.int .i64 4] from rfl) (Reps.one (show Kd.M (Kd.int .i64) _ _ _ 1 [.int .i64 1] from rfl) (Reps.one (show Kd.M (Kd.int .i64) _ _ _ 1 [.int .i64 1] from rfl) (Reps.one (show Kd.M (Kd.int .i64) _ _ _ 1 [.int .i64 1] from rfl) (Reps.one (show Kd.M (Kd.int .i64) _ _ _ 1 [.int .i64 1] from rfl) (Reps.one (show Kd.M (Kd.int .i64) _ _ _ 1 [.int .i64 1] from rfl) (Reps.none _ _)))))))); intro v243 w32 ho33 hb hg_ hnew_; clear hg_ hnew_; (first | rw [← Ny242.out] at ho33 | (simp only [Int.reduceToNat] at ho33; rw [← Ny242.out] at ho33)); have n0_ := Aside0.mk (Kd.R_lower ho33 (below_size (by repeat (first | (with_reducible first | exact HB.out | apply below_alloc | apply pw_below_drewN | apply below_drew1 | refine below_set ?_ GE241.out) | exact HB.out)))); have n1_ := Aside0.mk (blk_below (g := gb241) (o := .cells #[.int .i64 0, .int .i64 0, .int .i64 0, .int .i64 0, .int .i64 0, .int .i64 0] 27 (0, 0)) (by (with_reducible repeat (first | refine blk_drewN ?_ _ | refine blk_drew ?_ | refine blk_alloc ?_ _)); exact BK241.out) hb); have n2_ := Aside0.mk (below_step (by repeat (first | (with_reducible first | exact HB.out | apply below_alloc | apply pw_below_drewN | apply below_drew1 | refine below_set ?_ GE241.out) | exact HB.out)) hb); clear BK241; clear HB; have HO244 := n0_; have BK241 := n1_; have HB := n2_; clear n0_ n1_ n2_; clear hb ho33; obtain ⟨Ao34, co34, eo34⟩ := Kd.R_slice HO244.out; subst eo34) | ((with_reducible refine gate_callee (f := 35) rfl ?_); refine goesL_ (some 12) rfl rfl Try.func35 (by kernel_rfl) rfl #[.slice A0 l0.length c0, .slice Ao34 y242.length co34] rfl (by (try simp only [List.map_toArray, List.map_cons, List.map_nil]); first | done | rfl | (simp only [List.length_drop, List.length_take]; rfl)) ?_; (with_reducible refine (wayfinderref02_GetAll.calls k _ _ l0 _ _ y242 t245 t246 t247 _ ?side1 ?side2 ?side3 ?side4 A2.out).mono ?_); (case side1 => repeat (first | exact (Kd.C_below HR0.out HB.out) | (with_reducible refine Kd.C_alloc ?_ _) | (with_reducible refine Kd.C_drewN ?_ _) | (with_reducible refine Kd.C_drew ?_))); (case side2 => exact HC0.out); (case side3 => repeat (first | exact (Kd.R_reads' HO244.out).2.2 | (with_reducible refine Kd.C_alloc ?_ _) | (with_reducible refine Kd.C_drewN ?_ _) | (with_reducible refine Kd.C_drew ?_))); (case side4 => exact (Kd.R_reads' HO244.out).2.1); rintro e w35 ⟨v248, rfl, ho0, hb⟩; refine ⟨_, rfl, ?_⟩; have n0_ := Aside0.mk (Kd.R_elder' (by (with_reducible repeat (first | apply Kd.R_alloc | apply Kd.R_drewN | apply Kd.R_drew)); exact HO244.out) (Kd.R_base ho0) hb); have n1_ := Aside0.mk (Kd.R_lower (Kd.R_new' ho0 (Kd.R_lt (by (with_reducible repeat (first | apply Kd.R_alloc | apply Kd.R_drewN | apply Kd.R_drew)); exact HO244.out))) (below_size (by repeat (first | (with_reducible first | exact HB.out | apply below_alloc | apply pw_below_drewN | apply below_drew1 | refine below_set ?_ GE241.out) | exact HB.out)))); have n2_ := Aside0.mk (blk_below (g := gb241) (o := .cells #[.int .i64 0, .int .i64 0, .int .i64 0, .int .i64 0, .int .i64 0, .int .i64 0] 27 (0, 0)) (by (with_reducible repeat (first | refine blk_drewN ?_ _ | refine blk_drew ?_ | refine blk_alloc ?_ _)); exact BK241.out) hb); have n3_ := Aside0.mk (below_step (by repeat (first | (with_reducible first | exact HB.out | apply below_alloc | apply pw_below_drewN | apply below_drew1 | refine below_set ?_ GE241.out) | exact HB.out)) hb); clear HO244; clear BK241; clear HB; have HO244 := n0_; have HO249 := n1_; have BK241 := n2_; have HB := n3_; clear n0_ n1_ n2_ n3_; (try clear hb); (try clear hb2); (try clear hk); (try clear hi); (try clear ho0)))
                  have n0_ := Aside0.mk (Kd.R_drew HO244.out)
                  have n1_ := Aside0.mk (Kd.R_drew HO249.out)
                  have n2_ := Aside0.mk (blk_drew BK241.out)
                  have n3_ := Aside0.mk (below_drew1 HB.out)
                  clear HO244
                  clear HO249
                  clear BK241
                  clear HB
                  have HO244 := n0_
                  have HO249 := n1_
                  have BK241 := n2_
                  have HB := n3_
                  clear n0_ n1_ n2_ n3_
                  obtain ⟨Ao37, co37, eo37⟩ := Kd.R_slice HO249.out
                  (first | subst eo37 | (injection eo37 with f1_ f2_ f3_; have f4_ := f1_.symm; have f5_ := f3_.symm; clear f1_ f2_ f3_; subst f4_; subst f5_))
                  have p250 : 0 ≤ (0 : Int) := (by omega)
                  have q250 : 0 < (t245.length : Int) := of_decide_eq_true (by first | (with_reducible assumption) | assumption)
                  obtain ⟨ad250, e250, hx250_0⟩ := Kd.at_int (Kd.R_reads' HO249.out).2.2 0 p250 q250
                  cases e250
                  have qi250 : (0 < t245.length) = True := eq_true (by omega)
                  (try rw [show ((0 : Int)).toNat = 0 from rfl] at hx250_0)
                  (try rw [Addr.add_zero'] at hx250_0)
                  replace p250 := eq_true p250
                  replace q250 := eq_true q250
                  have p251 : 0 ≤ (1 : Int) := (by omega)
                  have q251 : 1 < (t245.length : Int) := of_decide_eq_true (by first | (with_reducible assumption) | assumption)
                  obtain ⟨ad251, e251, hx251_0⟩ := Kd.at_int (Kd.R_reads' HO249.out).2.2 1 p251 q251
                  obtain rfl : ad250 = ad251 := (by injection e251)
                  (try simp only [show (1 : Int).toNat = 1 from rfl, Nat.reduceMul, Nat.reduceEqDiff, Go.Addr.add, ↓reduceIte] at hx251_0)
                  have qi251 : (1 < t245.length) = True := eq_true (by omega)
                  (try rw [show ((1 : Int)).toNat = 1 from rfl] at hx251_0)
                  replace p251 := eq_true p251
                  replace q251 := eq_true q251
                  have p252 : 0 ≤ (2 : Int) := (by omega)
                  have q252 : 2 < (t245.length : Int) := of_decide_eq_true (by first | (with_reducible assumption) | assumption)
                  obtain ⟨ad252, e252, hx252_0⟩ := Kd.at_int (Kd.R_reads' HO249.out).2.2 2 p252 q252
                  obtain rfl : ad250 = ad252 := (by injection e252)
                  (try simp only [show (2 : Int).toNat = 2 from rfl, Nat.reduceMul, Nat.reduceEqDiff, Go.Addr.add, ↓reduceIte] at hx252_0)
                  have qi252 : (2 < t245.length) = True := eq_true (by omega)
                  (try rw [show ((2 : Int)).toNat = 2 from rfl] at hx252_0)
                  replace p252 := eq_true p252
                  replace q252 := eq_true q252
                  have p253 : 0 ≤ (3 : Int) := (by omega)
                  have q253 : 3 < (t245.length : Int) := of_decide_eq_true (by first | (with_reducible assumption) | assumption)
                  obtain ⟨ad253, e253, hx253_0⟩ := Kd.at_int (Kd.R_reads' HO249.out).2.2 3 p253 q253
                  obtain rfl : ad250 = ad253 := (by injection e253)
                  (try simp only [show (3 : Int).toNat = 3 from rfl, Nat.reduceMul, Nat.reduceEqDiff, Go.Addr.add, ↓reduceIte] at hx253_0)
                  have qi253 : (3 < t245.length) = True := eq_true (by omega)
                  (try rw [show ((3 : Int)).toNat = 3 from rfl] at hx253_0)
                  replace p253 := eq_true p253
                  replace q253 := eq_true q253
                  have p254 : 0 ≤ (4 : Int) := (by omega)
                  have q254 : 4 < (t245.length : Int) := of_decide_eq_true (by first | (with_reducible assumption) | assumption)
                  obtain ⟨ad254, e254, hx254_0⟩ := Kd.at_int (Kd.R_reads' HO249.out).2.2 4 p254 q254
                  obtain rfl : ad250 = ad254 := (by injection e254)
                  (try simp only [show (4 : Int).toNat = 4 from rfl, Nat.reduceMul, Nat.reduceEqDiff, Go.Addr.add, ↓reduceIte] at hx254_0)
                  have qi254 : (4 < t245.length) = True := eq_true (by omega)
                  (try rw [show ((4 : Int)).toNat = 4 from rfl] at hx254_0)
                  replace p254 := eq_true p254
                  replace q254 := eq_true q254
                  have p255 : 0 ≤ (5 : Int) := (by omega)
                  have q255 : 5 < (t245.length : Int) := of_decide_eq_true (by first | (with_reducible assumption) | assumption)
                  obtain ⟨ad255, e255, hx255_0⟩ := Kd.at_int (Kd.R_reads' HO249.out).2.2 5 p255 q255
                  obtain rfl : ad250 = ad255 := (by injection e255)
                  (try simp only [show (5 : Int).toNat = 5 from rfl, Nat.reduceMul, Nat.reduceEqDiff, Go.Addr.add, ↓reduceIte] at hx255_0)
                  have qi255 : (5 < t245.length) = True := eq_true (by omega)
                  (try rw [show ((5 : Int)).toNat = 5 from rfl] at hx255_0)
                  replace p255 := eq_true p255
                  replace q255 := eq_true q255
                  refine start_ (n := 24) (S := fun w' => w'.cell? ad250 = some (.int .i64 (rd t245 0)) ∧ w'.cell? ⟨ad250.block, ad250.off + 1, none⟩ = some (.int .i64 (rd t245 1)) ∧ w'.cell? ⟨ad250.block, ad250.off + 2, none⟩ = some (.int .i64 (rd t245 2)) ∧ w'.cell? ⟨ad250.block, ad250.off + 3, none⟩ = some (.int .i64 (rd t245 3)) ∧ w'.cell? ⟨ad250.block, ad250.off + 4, none⟩ = some (.int .i64 (rd t245 4)) ∧ w'.cell? ⟨ad250.block, ad250.off + 5, none⟩ = some (.int .i64 (rd t245 5))) (ds := []) #[false, false, false, false, false, false, false, false, false, false, false, false, false, false, false, false, false, false, false, false, false, false, false, false] (by kernel_rfl) rfl rfl ⟨hx250_0, hx251_0, hx252_0, hx253_0, hx254_0, hx255_0⟩ (fun hHeld => ?_); refine with_tabW wayfinderref04_Get.tab4 wayfinderref04_Get.bits4 (fun HT_ HW_ => ?_)
                  generalize w35.drew = w36 at HO244 HO249 BK241 HB hx250_0 hx251_0 hx252_0 hx253_0 hx254_0 hx255_0 hHeld ⊢
                  refine pure_ (i := 0) (N := some 20) (v := ?_) (a' := ?_) #[true, false, false, false, false, false, false, false, false, false, false, false, false, false, false, false, false, false, false, false, false, false, false, false] rfl rfl (any_of HT_.out (by kernel_rfl)) (fun _ _ _ h => h) (Or.inl ⟨by rfl, ?_⟩) ?_ ?_
                  rotate_left
                  · intro w'
                    go_simp
                    with_reducible rfl
                  rotate_left
                  · simp only [Act.put, List.setIfInBounds_toArray, List.set_cons_zero, List.set_cons_succ, i64_w, i32_w]
                    rfl
                  refine pure_ (i := 1) (N := some 21) (v := ?_) (a' := ?_) #[true, true, false, false, false, false, false, false, false, false, false, false, false, false, false, false, false, false, false, false, false, false, false, false] rfl rfl (any_of HT_.out (by kernel_rfl)) (fun _ _ _ h => h) (Or.inl ⟨by rfl, ?_⟩) ?_ ?_
                  rotate_left
                  · intro w'
                    go_simp
                    with_reducible rfl
                  rotate_left
                  · simp only [Act.put, List.setIfInBounds_toArray, List.set_cons_zero, List.set_cons_succ, i64_w, i32_w]
                    rfl
                  refine pure_ (i := 3) (N := some 23) (v := ?_) (a' := ?_) #[true, true, false, true, false, false, false, false, false, false, false, false, false, false, false, false, false, false, false, false, false, false, false, false] rfl rfl (any_of HT_.out (by kernel_rfl)) (fun _ _ _ h => h) (Or.inl ⟨by rfl, ?_⟩) ?_ ?_
                  rotate_left
                  · intro w'
                    go_simp
                    with_reducible rfl
                  rotate_left
                  · simp only [Act.put, List.setIfInBounds_toArray, List.set_cons_zero, List.set_cons_succ, i64_w, i32_w]
                    rfl
                  refine pure_ (i := 4) (N := some 24) (v := ?_) (a' := ?_) #[true, true, false, true, true, false, false, false, false, false, false, false, false, false, false, false, false, false, false, false, false, false, false, false] rfl rfl (any_of HT_.out (by kernel_rfl)) (fun _ _ _ h => h) (Or.inl ⟨by rfl, ?_⟩) ?_ ?_
                  rotate_left
                  · intro w'
                    go_simp
                    with_reducible rfl
                  rotate_left
                  · simp only [Act.put, List.setIfInBounds_toArray, List.set_cons_zero, List.set_cons_succ, i64_w, i32_w]
                    rfl
                  refine pure_ (i := 7) (N := some 27) (v := ?_) (a' := ?_) #[true, true, false, true, true, false, false, true, false, false, false, false, false, false, false, false, false, false, false, false, false, false, false, false] rfl rfl (any_of HT_.out (by kernel_rfl)) (fun _ _ _ h => h) (Or.inl ⟨by rfl, ?_⟩) ?_ ?_
                  rotate_left
                  · intro w'
                    go_simp
                    with_reducible rfl
                  rotate_left
                  · simp only [Act.put, List.setIfInBounds_toArray, List.set_cons_zero, List.set_cons_succ, i64_w, i32_w]
                    rfl
                  refine pure_ (i := 8) (N := some 28) (v := ?_) (a' := ?_) #[true, true, false, true, true, false, false, true, true, false, false, false, false, false, false, false, false, false, false, false, false, false, false, false] rfl rfl (any_of HT_.out (by kernel_rfl)) (fun _ _ _ h => h) (Or.inl ⟨by rfl, ?_⟩) ?_ ?_
                  rotate_left
                  · intro w'
                    go_simp
                    with_reducible rfl
                  rotate_left
                  · simp only [Act.put, List.setIfInBounds_toArray, List.set_cons_zero, List.set_cons_succ, i64_w, i32_w]
                    rfl
                  refine pure_ (i := 11) (N := some 31) (v := ?_) (a' := ?_) #[true, true, false, true, true, false, false, true, true, false, false, true, false, false, false, false, false, false, false, false, false, false, false, false] rfl rfl (any_of HT_.out (by kernel_rfl)) (fun _ _ _ h => h) (Or.inl ⟨by rfl, ?_⟩) ?_ ?_
                  rotate_left
                  · intro w'
                    go_simp
                    with_reducible rfl
                  rotate_left
                  · simp only [Act.put, List.setIfInBounds_toArray, List.set_cons_zero, List.set_cons_succ, i64_w, i32_w]
                    rfl
                  refine pure_ (i := 12) (N := some 32) (v := ?_) (a' := ?_) #[true, true, false, true, true, false, false, true, true, false, false, true, true, false, false, false, false, false, false, false, false, false, false, false] rfl rfl (any_of HT_.out (by kernel_rfl)) (fun _ _ _ h => h) (Or.inl ⟨by rfl, ?_⟩) ?_ ?_
                  rotate_left
                  · intro w'
                    go_simp
                    with_reducible rfl
                  rotate_left
                  · simp only [Act.put, List.setIfInBounds_toArray, List.set_cons_zero, List.set_cons_succ, i64_w, i32_w]
                    rfl
                  refine pure_ (i := 14) (N := some 34) (v := ?_) (a' := ?_) #[true, true, false, true, true, false, false, true, true, false, false, true, true, false, true, false, false, false, false, false, false, false, false, false] rfl rfl (any_of HT_.out (by kernel_rfl)) (fun _ _ _ h => h) (Or.inl ⟨by rfl, ?_⟩) ?_ ?_
                  rotate_left
                  · intro w'
                    go_simp
                    with_reducible rfl
                  rotate_left
                  · simp only [Act.put, List.setIfInBounds_toArray, List.set_cons_zero, List.set_cons_succ, i64_w, i32_w]
                    rfl
                  refine pure_ (i := 15) (N := some 35) (v := ?_) (a' := ?_) #[true, true, false, true, true, false, false, true, true, false, false, true, true, false, true, true, false, false, false, false, false, false, false, false] rfl rfl (any_of HT_.out (by kernel_rfl)) (fun _ _ _ h => h) (Or.inl ⟨by rfl, ?_⟩) ?_ ?_
                  rotate_left
                  · intro w'
                    go_simp
                    with_reducible rfl
                  rotate_left
                  · simp only [Act.put, List.setIfInBounds_toArray, List.set_cons_zero, List.set_cons_succ, i64_w, i32_w]
                    rfl
                  refine pure_ (i := 17) (N := some 37) (v := ?_) (a' := ?_) #[true, true, false, true, true, false, false, true, true, false, false, true, true, false, true, true, false, true, false, false, false, false, false, false] rfl rfl (any_of HT_.out (by kernel_rfl)) (fun _ _ _ h => h) (Or.inl ⟨by rfl, ?_⟩) ?_ ?_
                  rotate_left
                  · intro w'
                    go_simp
                    with_reducible rfl
                  rotate_left
                  · simp only [Act.put, List.setIfInBounds_toArray, List.set_cons_zero, List.set_cons_succ, i64_w, i32_w]
                    rfl
                  refine pure_ (i := 18) (N := some 38) (v := ?_) (a' := ?_) #[true, true, false, true, true, false, false, true, true, false, false, true, true, false, true, true, false, true, true, false, false, false, false, false] rfl rfl (any_of HT_.out (by kernel_rfl)) (fun _ _ _ h => h) (Or.inl ⟨by rfl, ?_⟩) ?_ ?_
                  rotate_left
                  · intro w'
                    go_simp
                    with_reducible rfl
                  rotate_left
                  · simp only [Act.put, List.setIfInBounds_toArray, List.set_cons_zero, List.set_cons_succ, i64_w, i32_w]
                    rfl
                  refine take_ (i := 2) (N := some 22) (v := ?_) (a' := ?_) #[true, true, true, true, true, false, false, true, true, false, false, true, true, false, true, true, false, true, true, false, false, false, false, false] rfl rfl (take_ofW HT_.out HW_.out (by kernel_rfl)) (fun _ _ _ h => h) (Or.inl ⟨by rfl, ?_⟩) hHeld ?_ ?_
                  rotate_left
                  · rintro w' ⟨s0, s1, s2, s3, s4, s5⟩
                    go_simp
                    with_reducible rfl
                  rotate_left
                  · simp only [Act.put, List.setIfInBounds_toArray, List.set_cons_zero, List.set_cons_succ, i64_w, i32_w]
                    rfl
                  refine take_ (i := 5) (N := some 25) (v := ?_) (a' := ?_) #[true, true, true, true, true, true, false, true, true, false, false, true, true, false, true, true, false, true, true, false, false, false, false, false] rfl rfl (take_ofW HT_.out HW_.out (by kernel_rfl)) (fun _ _ _ h => h) (Or.inl ⟨by rfl, ?_⟩) hHeld ?_ ?_
                  rotate_left
                  · rintro w' ⟨s0, s1, s2, s3, s4, s5⟩
                    go_simp
                    with_reducible rfl
                  rotate_left
                  · simp only [Act.put, List.setIfInBounds_toArray, List.set_cons_zero, List.set_cons_succ, i64_w, i32_w]
                    rfl
                  refine pure_ (i := 6) (N := some 26) (v := ?_) (a' := ?_) #[true, true, true, true, true, true, true, true, true, false, false, true, true, false, true, true, false, true, true, false, false, false, false, false] rfl rfl (any_of HT_.out (by kernel_rfl)) (fun _ _ _ h => h) (Or.inl ⟨by rfl, ?_⟩) ?_ ?_
                  rotate_left
                  · intro w'
                    go_simp
                    with_reducible rfl
                  rotate_left
                  · simp only [Act.put, List.setIfInBounds_toArray, List.set_cons_zero, List.set_cons_succ, i64_w, i32_w]
                    rfl
                  refine take_ (i := 9) (N := some 29) (v := ?_) (a' := ?_) #[true, true, true, true, true, true, true, true, true, true, false, true, true, false, true, true, false, true, true, false, false, false, false, false] rfl rfl (take_ofW HT_.out HW_.out (by kernel_rfl)) (fun _ _ _ h => h) (Or.inl ⟨by rfl, ?_⟩) hHeld ?_ ?_
                  rotate_left
                  · rintro w' ⟨s0, s1, s2, s3, s4, s5⟩
                    go_simp
                    with_reducible rfl
                  rotate_left
                  · simp only [Act.put, List.setIfInBounds_toArray, List.set_cons_zero, List.set_cons_succ, i64_w, i32_w]
                    rfl
                  refine pure_ (i := 10) (N := some 30) (v := ?_) (a' := ?_) #[true, true, true, true, true, true, true, true, true, true, true, true, true, false, true, true, false, true, true, false, false, false, false, false] rfl rfl (any_of HT_.out (by kernel_rfl)) (fun _ _ _ h => h) (Or.inl ⟨by rfl, ?_⟩) ?_ ?_
                  rotate_left
                  · intro w'
                    go_simp
                    with_reducible rfl
                  rotate_left
                  · simp only [Act.put, List.setIfInBounds_toArray, List.set_cons_zero, List.set_cons_succ, i64_w, i32_w]
                    rfl
                  refine take_ (i := 13) (N := some 33) (v := ?_) (a' := ?_) #[true, true, true, true, true, true, true, true, true, true, true, true, true, true, true, true, false, true, true, false, false, false, false, false] rfl rfl (take_ofW HT_.out HW_.out (by kernel_rfl)) (fun _ _ _ h => h) (Or.inl ⟨by rfl, ?_⟩) hHeld ?_ ?_
                  rotate_left
                  · rintro w' ⟨s0, s1, s2, s3, s4, s5⟩
                    go_simp
                    with_reducible rfl
                  rotate_left
                  · simp only [Act.put, List.setIfInBounds_toArray, List.set_cons_zero, List.set_cons_succ, i64_w, i32_w]
                    rfl
                  refine take_ (i := 16) (N := some 36) (v := ?_) (a' := ?_) #[true, true, true, true, true, true, true, true, true, true, true, true, true, true, true, true, true, true, true, false, false, false, false, false] rfl rfl (take_ofW HT_.out HW_.out (by kernel_rfl)) (fun _ _ _ h => h) (Or.inl ⟨by rfl, ?_⟩) hHeld ?_ ?_
                  rotate_left
                  · rintro w' ⟨s0, s1, s2, s3, s4, s5⟩
                    go_simp
                    with_reducible rfl
                  rotate_left
                  · simp only [Act.put, List.setIfInBounds_toArray, List.set_cons_zero, List.set_cons_succ, i64_w, i32_w]
                    rfl
                  refine take_ (i := 19) (N := some 39) (v := ?_) (a' := ?_) #[true, true, true, true, true, true, true, true, true, true, true, true, true, true, true, true, true, true, true, true, false, false, false, false] rfl rfl (take_ofW HT_.out HW_.out (by kernel_rfl)) (fun _ _ _ h => h) (Or.inl ⟨by rfl, ?_⟩) hHeld ?_ ?_
                  rotate_left
                  · rintro w' ⟨s0, s1, s2, s3, s4, s5⟩
                    go_simp
                    with_reducible rfl
                  rotate_left
                  · simp only [Act.put, List.setIfInBounds_toArray, List.set_cons_zero, List.set_cons_succ, i64_w, i32_w]
                    rfl
                  refine pure_ (i := 20) (N := some 40) (v := ?_) (a' := ?_) #[true, true, true, true, true, true, true, true, true, true, true, true, true, true, true, true, true, true, true, true, true, false, false, false] rfl rfl (any_of HT_.out (by kernel_rfl)) (fun _ _ _ h => h) (Or.inl ⟨by rfl, ?_⟩) ?_ ?_
                  rotate_left
                  · intro w'
                    go_simp
                    with_reducible rfl
                  rotate_left
                  · simp only [Act.put, List.setIfInBounds_toArray, List.set_cons_zero, List.set_cons_succ, i64_w, i32_w]
                    rfl
                  refine pure_ (i := 21) (N := some 41) (v := ?_) (a' := ?_) #[true, true, true, true, true, true, true, true, true, true, true, true, true, true, true, true, true, true, true, true, true, true, false, false] rfl rfl (any_of HT_.out (by kernel_rfl)) (fun _ _ _ h => h) (Or.inl ⟨by rfl, ?_⟩) ?_ ?_
                  rotate_left
                  · intro w'
                    go_simp
                    with_reducible rfl
                  rotate_left
                  · simp only [Act.put, List.setIfInBounds_toArray, List.set_cons_zero, List.set_cons_succ, i64_w, i32_w]
                    rfl
                  refine one_ (i := 22) (N := some 7) #[true, true, true, true, true, true, true, true, true, true, true, true, true, true, true, true, true, true, true, true, true, true, true, false] rfl rfl (one_of HT_.out (by kernel_rfl)) (by decide) (fun K hK => ?_)
                  refine box_step ?hg (N := 7) ?hd (cs := #[.int .i64 0, .int .i64 0, .int .i64 0, .int .i64 0, .int .i64 0, .int .i64 0]) (t := 27) ?hr ?_; (case hd => rfl); (case hg => rfl); (case hr => first | (go_simp; done) | (go_simp; rfl))
                  intro gb256 hg w38 hbox hb
                  have HS0_ := (hb.cell (World.block_lt_of_cell? _ _ (hHeld.1))).trans (hHeld.1)
                  have HS1_ := (hb.cell (World.block_lt_of_cell? _ _ (hHeld.2.1))).trans (hHeld.2.1)
                  have HS2_ := (hb.cell (World.block_lt_of_cell? _ _ (hHeld.2.2.1))).trans (hHeld.2.2.1)
                  have HS3_ := (hb.cell (World.block_lt_of_cell? _ _ (hHeld.2.2.2.1))).trans (hHeld.2.2.2.1)
                  have HS4_ := (hb.cell (World.block_lt_of_cell? _ _ (hHeld.2.2.2.2.1))).trans (hHeld.2.2.2.2.1)
                  have HS5_ := (hb.cell (World.block_lt_of_cell? _ _ (hHeld.2.2.2.2.2))).trans (hHeld.2.2.2.2.2)
                  have n0_ := Aside0.mk (Kd.R_below (by (with_reducible repeat (first | apply Kd.R_alloc | apply Kd.R_drewN | apply Kd.R_drew)); exact HO244.out) hb)
                  have n1_ := Aside0.mk (Kd.R_below (by (with_reducible repeat (first | apply Kd.R_alloc | apply Kd.R_drewN | apply Kd.R_drew)); exact HO249.out) hb)
                  have n2_ := Aside0.mk (blk_below (g := gb241) (o := .cells #[.int .i64 0, .int .i64 0, .int .i64 0, .int .i64 0, .int .i64 0, .int .i64 0] 27 (0, 0)) (by (with_reducible repeat (first | refine blk_drewN ?_ _ | refine blk_drew ?_ | refine blk_alloc ?_ _)); exact BK241.out) hb)
                  have n3_ := Aside0.mk (below_step (by repeat (first | (with_reducible first | exact HB.out | apply below_alloc | apply pw_below_drewN | apply below_drew1 | refine below_set ?_ GE241.out) | exact HB.out)) hb)
                  have n4_ := Aside0.mk (hbox)
                  have n5_ := Aside0.mk ((by rw [hg]; exact (below_size (by repeat (first | (with_reducible first | exact HB.out | apply below_alloc | apply pw_below_drewN | apply below_drew1 | refine below_set ?_ GE241.out) | exact HB.out))) : w.heap.size ≤ gb256))
                  have n6_ := Aside0.mk ((by rw [hg]; exact (below_size (by repeat (first | (with_reducible first | exact HB.out | apply below_alloc | apply pw_below_drewN | apply below_drew1 | refine below_set ?_ GE241.out) | exact HB.out))) : w.heap.size ≤ gb256))
                  have n7_ := Aside0.mk ((by rw [hg]; exact Nat.ne_of_lt (blk_lt (g := gb241) (o := .cells #[.int .i64 0, .int .i64 0, .int .i64 0, .int .i64 0, .int .i64 0, .int .i64 0] 27 (0, 0)) (by (with_reducible repeat (first | refine blk_drewN ?_ _ | refine blk_drew ?_ | refine blk_alloc ?_ _)); exact BK241.out)) : gb241 ≠ gb256))
                  have n8_ := Aside0.mk ((by rw [hg]; exact Nat.ne_of_gt (blk_lt (g := gb241) (o := .cells #[.int .i64 0, .int .i64 0, .int .i64 0, .int .i64 0, .int .i64 0, .int .i64 0] 27 (0, 0)) (by (with_reducible repeat (first | refine blk_drewN ?_ _ | refine blk_drew ?_ | refine blk_alloc ?_ _)); exact BK241.out)) : gb256 ≠ gb241))
                  clear HO244
                  clear HO249
                  clear BK241
                  clear HB
                  have HO244 := n0_
                  have HO249 := n1_
                  have BK241 := n2_
                  have HB := n3_
                  have BK256 := n4_
                  have GW256 := n5_
                  have GE256 := n6_
                  have NB241_256 := n7_
                  have NB256_241 := n8_
                  clear n0_ n1_ n2_ n3_ n4_ n5_ n6_ n7_ n8_
                  clear hb hbox hg
                  refine hK.out _ _ ⟨HS0_, HS1_, HS2_, HS3_, HS4_, HS5_⟩ (fun hHeld => ?_)
                  clear hK K
                  refine norm_ (a' := ?_) ?_ ?_
                  rotate_left
                  · show Act.put _ (some 7) _ = _
                    simp only [Act.put, List.setIfInBounds_toArray, List.set_cons_zero, List.set_cons_succ, i64_w, i32_w]
                    rfl
                  refine one_ (i := 23) (N := none) #[true, true, true, true, true, true, true, true, true, true, true, true, true, true, true, true, true, true, true, true, true, true, true, true] rfl rfl (one_of HT_.out (by kernel_rfl)) (by decide) (fun K hK => ?_)
                  have hs39 : w38.cell? ⟨gb256, 0, none⟩ = some (.int .i64 0) := (blk_cell BK256.out 0).trans rfl
                  have hfs39 := blk_frozen BK256.out 0
                  have hns39_0 := NB241_256.out
                  have hms39_0 := NB256_241.out
                  have hs40 : w38.cell? ⟨gb256, 1, none⟩ = some (.int .i64 0) := (blk_cell BK256.out 1).trans rfl
                  have hfs40 := blk_frozen BK256.out 1
                  have hns40_0 := NB241_256.out
                  have hms40_0 := NB256_241.out
                  have hs41 : w38.cell? ⟨gb256, 2, none⟩ = some (.int .i64 0) := (blk_cell BK256.out 2).trans rfl
                  have hfs41 := blk_frozen BK256.out 2
                  have hns41_0 := NB241_256.out
                  have hms41_0 := NB256_241.out
                  have hs42 : w38.cell? ⟨gb256, 3, none⟩ = some (.int .i64 0) := (blk_cell BK256.out 3).trans rfl
                  have hfs42 := blk_frozen BK256.out 3
                  have hns42_0 := NB241_256.out
                  have hms42_0 := NB256_241.out
                  have hs43 : w38.cell? ⟨gb256, 4, none⟩ = some (.int .i64 0) := (blk_cell BK256.out 4).trans rfl
                  have hfs43 := blk_frozen BK256.out 4
                  have hns43_0 := NB241_256.out
                  have hms43_0 := NB256_241.out
                  have hs44 : w38.cell? ⟨gb256, 5, none⟩ = some (.int .i64 0) := (blk_cell BK256.out 5).trans rfl
                  have hfs44 := blk_frozen BK256.out 5
                  have hns44_0 := NB241_256.out
                  have hms44_0 := NB256_241.out
                  refine skip_ (w1 := ?_) (by rfl) rfl ?_ ?_
                  rotate_left
                  · go_simp
                    rfl
                  refine hK.out _ _ ⟨((cell_far (p := ⟨gb256, _, none⟩) (by first | exact Kd.own_blk (Kd.R_ne HO249.out BK256.out (by decide)) | (rw [add_block]; exact Kd.own_blk (Kd.R_ne HO249.out BK256.out (by decide))) | (show (Addr.add _ _).block ≠ _; rw [add_block]; exact Kd.own_blk (Kd.R_ne HO249.out BK256.out (by decide))) | (dsimp only; exact Kd.own_blk (Kd.R_ne HO249.out BK256.out (by decide)))) _).trans (((cell_far (p := ⟨gb256, _, none⟩) (by first | exact Kd.own_blk (Kd.R_ne HO249.out BK256.out (by decide)) | (rw [add_block]; exact Kd.own_blk (Kd.R_ne HO249.out BK256.out (by decide))) | (show (Addr.add _ _).block ≠ _; rw [add_block]; exact Kd.own_blk (Kd.R_ne HO249.out BK256.out (by decide))) | (dsimp only; exact Kd.own_blk (Kd.R_ne HO249.out BK256.out (by decide)))) _).trans (((cell_far (p := ⟨gb256, _, none⟩) (by first | exact Kd.own_blk (Kd.R_ne HO249.out BK256.out (by decide)) | (rw [add_block]; exact Kd.own_blk (Kd.R_ne HO249.out BK256.out (by decide))) | (show (Addr.add _ _).block ≠ _; rw [add_block]; exact Kd.own_blk (Kd.R_ne HO249.out BK256.out (by decide))) | (dsimp only; exact Kd.own_blk (Kd.R_ne HO249.out BK256.out (by decide)))) _).trans (((cell_far (p := ⟨gb256, _, none⟩) (by first | exact Kd.own_blk (Kd.R_ne HO249.out BK256.out (by decide)) | (rw [add_block]; exact Kd.own_blk (Kd.R_ne HO249.out BK256.out (by decide))) | (show (Addr.add _ _).block ≠ _; rw [add_block]; exact Kd.own_blk (Kd.R_ne HO249.out BK256.out (by decide))) | (dsimp only; exact Kd.own_blk (Kd.R_ne HO249.out BK256.out (by decide)))) _).trans (((cell_far (p := ⟨gb256, _, none⟩) (by first | exact Kd.own_blk (Kd.R_ne HO249.out BK256.out (by decide)) | (rw [add_block]; exact Kd.own_blk (Kd.R_ne HO249.out BK256.out (by decide))) | (show (Addr.add _ _).block ≠ _; rw [add_block]; exact Kd.own_blk (Kd.R_ne HO249.out BK256.out (by decide))) | (dsimp only; exact Kd.own_blk (Kd.R_ne HO249.out BK256.out (by decide)))) _).trans (((cell_far (p := ⟨gb256, _, none⟩) (by first | exact Kd.own_blk (Kd.R_ne HO249.out BK256.out (by decide)) | (rw [add_block]; exact Kd.own_blk (Kd.R_ne HO249.out BK256.out (by decide))) | (show (Addr.add _ _).block ≠ _; rw [add_block]; exact Kd.own_blk (Kd.R_ne HO249.out BK256.out (by decide))) | (dsimp only; exact Kd.own_blk (Kd.R_ne HO249.out BK256.out (by decide)))) _).trans (hHeld.1)))))))))))), ((cell_far (p := ⟨gb256, _, none⟩) (by first | exact Kd.own_blk (Kd.R_ne HO249.out BK256.out (by decide)) | (rw [add_block]; exact Kd.own_blk (Kd.R_ne HO249.out BK256.out (by decide))) | (show (Addr.add _ _).block ≠ _; rw [add_block]; exact Kd.own_blk (Kd.R_ne HO249.out BK256.out (by decide))) | (dsimp only; exact Kd.own_blk (Kd.R_ne HO249.out BK256.out (by decide)))) _).trans (((cell_far (p := ⟨gb256, _, none⟩) (by first | exact Kd.own_blk (Kd.R_ne HO249.out BK256.out (by decide)) | (rw [add_block]; exact Kd.own_blk (Kd.R_ne HO249.out BK256.out (by decide))) | (show (Addr.add _ _).block ≠ _; rw [add_block]; exact Kd.own_blk (Kd.R_ne HO249.out BK256.out (by decide))) | (dsimp only; exact Kd.own_blk (Kd.R_ne HO249.out BK256.out (by decide)))) _).trans (((cell_far (p := ⟨gb256, _, none⟩) (by first | exact Kd.own_blk (Kd.R_ne HO249.out BK256.out (by decide)) | (rw [add_block]; exact Kd.own_blk (Kd.R_ne HO249.out BK256.out (by decide))) | (show (Addr.add _ _).block ≠ _; rw [add_block]; exact Kd.own_blk (Kd.R_ne HO249.out BK256.out (by decide))) | (dsimp only; exact Kd.own_blk (Kd.R_ne HO249.out BK256.out (by decide)))) _).trans (((cell_far (p := ⟨gb256, _, none⟩) (by first | exact Kd.own_blk (Kd.R_ne HO249.out BK256.out (by decide)) | (rw [add_block]; exact Kd.own_blk (Kd.R_ne HO249.out BK256.out (by decide))) | (show (Addr.add _ _).block ≠ _; rw [add_block]; exact Kd.own_blk (Kd.R_ne HO249.out BK256.out (by decide))) | (dsimp only; exact Kd.own_blk (Kd.R_ne HO249.out BK256.out (by decide)))) _).trans (((cell_far (p := ⟨gb256, _, none⟩) (by first | exact Kd.own_blk (Kd.R_ne HO249.out BK256.out (by decide)) | (rw [add_block]; exact Kd.own_blk (Kd.R_ne HO249.out BK256.out (by decide))) | (show (Addr.add _ _).block ≠ _; rw [add_block]; exact Kd.own_blk (Kd.R_ne HO249.out BK256.out (by decide))) | (dsimp only; exact Kd.own_blk (Kd.R_ne HO249.out BK256.out (by decide)))) _).trans (((cell_far (p := ⟨gb256, _, none⟩) (by first | exact Kd.own_blk (Kd.R_ne HO249.out BK256.out (by decide)) | (rw [add_block]; exact Kd.own_blk (Kd.R_ne HO249.out BK256.out (by decide))) | (show (Addr.add _ _).block ≠ _; rw [add_block]; exact Kd.own_blk (Kd.R_ne HO249.out BK256.out (by decide))) | (dsimp only; exact Kd.own_blk (Kd.R_ne HO249.out BK256.out (by decide)))) _).trans (hHeld.2.1)))))))))))), ((cell_far (p := ⟨gb256, _, none⟩) (by first | exact Kd.own_blk (Kd.R_ne HO249.out BK256.out (by decide)) | (rw [add_block]; exact Kd.own_blk (Kd.R_ne HO249.out BK256.out (by decide))) | (show (Addr.add _ _).block ≠ _; rw [add_block]; exact Kd.own_blk (Kd.R_ne HO249.out BK256.out (by decide))) | (dsimp only; exact Kd.own_blk (Kd.R_ne HO249.out BK256.out (by decide)))) _).trans (((cell_far (p := ⟨gb256, _, none⟩) (by first | exact Kd.own_blk (Kd.R_ne HO249.out BK256.out (by decide)) | (rw [add_block]; exact Kd.own_blk (Kd.R_ne HO249.out BK256.out (by decide))) | (show (Addr.add _ _).block ≠ _; rw [add_block]; exact Kd.own_blk (Kd.R_ne HO249.out BK256.out (by decide))) | (dsimp only; exact Kd.own_blk (Kd.R_ne HO249.out BK256.out (by decide)))) _).trans (((cell_far (p := ⟨gb256, _, none⟩) (by first | exact Kd.own_blk (Kd.R_ne HO249.out BK256.out (by decide)) | (rw [add_block]; exact Kd.own_blk (Kd.R_ne HO249.out BK256.out (by decide))) | (show (Addr.add _ _).block ≠ _; rw [add_block]; exact Kd.own_blk (Kd.R_ne HO249.out BK256.out (by decide))) | (dsimp only; exact Kd.own_blk (Kd.R_ne HO249.out BK256.out (by decide)))) _).trans (((cell_far (p := ⟨gb256, _, none⟩) (by first | exact Kd.own_blk (Kd.R_ne HO249.out BK256.out (by decide)) | (rw [add_block]; exact Kd.own_blk (Kd.R_ne HO249.out BK256.out (by decide))) | (show (Addr.add _ _).block ≠ _; rw [add_block]; exact Kd.own_blk (Kd.R_ne HO249.out BK256.out (by decide))) | (dsimp only; exact Kd.own_blk (Kd.R_ne HO249.out BK256.out (by decide)))) _).trans (((cell_far (p := ⟨gb256, _, none⟩) (by first | exact Kd.own_blk (Kd.R_ne HO249.out BK256.out (by decide)) | (rw [add_block]; exact Kd.own_blk (Kd.R_ne HO249.out BK256.out (by decide))) | (show (Addr.add _ _).block ≠ _; rw [add_block]; exact Kd.own_blk (Kd.R_ne HO249.out BK256.out (by decide))) | (dsimp only; exact Kd.own_blk (Kd.R_ne HO249.out BK256.out (by decide)))) _).trans (((cell_far (p := ⟨gb256, _, none⟩) (by first | exact Kd.own_blk (Kd.R_ne HO249.out BK256.out (by decide)) | (rw [add_block]; exact Kd.own_blk (Kd.R_ne HO249.out BK256.out (by decide))) | (show (Addr.add _ _).block ≠ _; rw [add_block]; exact Kd.own_blk (Kd.R_ne HO249.out BK256.out (by decide))) | (dsimp only; exact Kd.own_blk (Kd.R_ne HO249.out BK256.out (by decide)))) _).trans (hHeld.2.2.1)))))))))))), ((cell_far (p := ⟨gb256, _, none⟩) (by first | exact Kd.own_blk (Kd.R_ne HO249.out BK256.out (by decide)) | (rw [add_block]; exact Kd.own_blk (Kd.R_ne HO249.out BK256.out (by decide))) | (show (Addr.add _ _).block ≠ _; rw [add_block]; exact Kd.own_blk (Kd.R_ne HO249.out BK256.out (by decide))) | (dsimp only; exact Kd.own_blk (Kd.R_ne HO249.out BK256.out (by decide)))) _).trans (((cell_far (p := ⟨gb256, _, none⟩) (by first | exact Kd.own_blk (Kd.R_ne HO249.out BK256.out (by decide)) | (rw [add_block]; exact Kd.own_blk (Kd.R_ne HO249.out BK256.out (by decide))) | (show (Addr.add _ _).block ≠ _; rw [add_block]; exact Kd.own_blk (Kd.R_ne HO249.out BK256.out (by decide))) | (dsimp only; exact Kd.own_blk (Kd.R_ne HO249.out BK256.out (by decide)))) _).trans (((cell_far (p := ⟨gb256, _, none⟩) (by first | exact Kd.own_blk (Kd.R_ne HO249.out BK256.out (by decide)) | (rw [add_block]; exact Kd.own_blk (Kd.R_ne HO249.out BK256.out (by decide))) | (show (Addr.add _ _).block ≠ _; rw [add_block]; exact Kd.own_blk (Kd.R_ne HO249.out BK256.out (by decide))) | (dsimp only; exact Kd.own_blk (Kd.R_ne HO249.out BK256.out (by decide)))) _).trans (((cell_far (p := ⟨gb256, _, none⟩) (by first | exact Kd.own_blk (Kd.R_ne HO249.out BK256.out (by decide)) | (rw [add_block]; exact Kd.own_blk (Kd.R_ne HO249.out BK256.out (by decide))) | (show (Addr.add _ _).block ≠ _; rw [add_block]; exact Kd.own_blk (Kd.R_ne HO249.out BK256.out (by decide))) | (dsimp only; exact Kd.own_blk (Kd.R_ne HO249.out BK256.out (by decide)))) _).trans (((cell_far (p := ⟨gb256, _, none⟩) (by first | exact Kd.own_blk (Kd.R_ne HO249.out BK256.out (by decide)) | (rw [add_block]; exact Kd.own_blk (Kd.R_ne HO249.out BK256.out (by decide))) | (show (Addr.add _ _).block ≠ _; rw [add_block]; exact Kd.own_blk (Kd.R_ne HO249.out BK256.out (by decide))) | (dsimp only; exact Kd.own_blk (Kd.R_ne HO249.out BK256.out (by decide)))) _).trans (((cell_far (p := ⟨gb256, _, none⟩) (by first | exact Kd.own_blk (Kd.R_ne HO249.out BK256.out (by decide)) | (rw [add_block]; exact Kd.own_blk (Kd.R_ne HO249.out BK256.out (by decide))) | (show (Addr.add _ _).block ≠ _; rw [add_block]; exact Kd.own_blk (Kd.R_ne HO249.out BK256.out (by decide))) | (dsimp only; exact Kd.own_blk (Kd.R_ne HO249.out BK256.out (by decide)))) _).trans (hHeld.2.2.2.1)))))))))))), ((cell_far (p := ⟨gb256, _, none⟩) (by first | exact Kd.own_blk (Kd.R_ne HO249.out BK256.out (by decide)) | (rw [add_block]; exact Kd.own_blk (Kd.R_ne HO249.out BK256.out (by decide))) | (show (Addr.add _ _).block ≠ _; rw [add_block]; exact Kd.own_blk (Kd.R_ne HO249.out BK256.out (by decide))) | (dsimp only; exact Kd.own_blk (Kd.R_ne HO249.out BK256.out (by decide)))) _).trans (((cell_far (p := ⟨gb256, _, none⟩) (by first | exact Kd.own_blk (Kd.R_ne HO249.out BK256.out (by decide)) | (rw [add_block]; exact Kd.own_blk (Kd.R_ne HO249.out BK256.out (by decide))) | (show (Addr.add _ _).block ≠ _; rw [add_block]; exact Kd.own_blk (Kd.R_ne HO249.out BK256.out (by decide))) | (dsimp only; exact Kd.own_blk (Kd.R_ne HO249.out BK256.out (by decide)))) _).trans (((cell_far (p := ⟨gb256, _, none⟩) (by first | exact Kd.own_blk (Kd.R_ne HO249.out BK256.out (by decide)) | (rw [add_block]; exact Kd.own_blk (Kd.R_ne HO249.out BK256.out (by decide))) | (show (Addr.add _ _).block ≠ _; rw [add_block]; exact Kd.own_blk (Kd.R_ne HO249.out BK256.out (by decide))) | (dsimp only; exact Kd.own_blk (Kd.R_ne HO249.out BK256.out (by decide)))) _).trans (((cell_far (p := ⟨gb256, _, none⟩) (by first | exact Kd.own_blk (Kd.R_ne HO249.out BK256.out (by decide)) | (rw [add_block]; exact Kd.own_blk (Kd.R_ne HO249.out BK256.out (by decide))) | (show (Addr.add _ _).block ≠ _; rw [add_block]; exact Kd.own_blk (Kd.R_ne HO249.out BK256.out (by decide))) | (dsimp only; exact Kd.own_blk (Kd.R_ne HO249.out BK256.out (by decide)))) _).trans (((cell_far (p := ⟨gb256, _, none⟩) (by first | exact Kd.own_blk (Kd.R_ne HO249.out BK256.out (by decide)) | (rw [add_block]; exact Kd.own_blk (Kd.R_ne HO249.out BK256.out (by decide))) | (show (Addr.add _ _).block ≠ _; rw [add_block]; exact Kd.own_blk (Kd.R_ne HO249.out BK256.out (by decide))) | (dsimp only; exact Kd.own_blk (Kd.R_ne HO249.out BK256.out (by decide)))) _).trans (((cell_far (p := ⟨gb256, _, none⟩) (by first | exact Kd.own_blk (Kd.R_ne HO249.out BK256.out (by decide)) | (rw [add_block]; exact Kd.own_blk (Kd.R_ne HO249.out BK256.out (by decide))) | (show (Addr.add _ _).block ≠ _; rw [add_block]; exact Kd.own_blk (Kd.R_ne HO249.out BK256.out (by decide))) | (dsimp only; exact Kd.own_blk (Kd.R_ne HO249.out BK256.out (by decide)))) _).trans (hHeld.2.2.2.2.1)))))))))))), ((cell_far (p := ⟨gb256, _, none⟩) (by first | exact Kd.own_blk (Kd.R_ne HO249.out BK256.out (by decide)) | (rw [add_block]; exact Kd.own_blk (Kd.R_ne HO249.out BK256.out (by decide))) | (show (Addr.add _ _).block ≠ _; rw [add_block]; exact Kd.own_blk (Kd.R_ne HO249.out BK256.out (by decide))) | (dsimp only; exact Kd.own_blk (Kd.R_ne HO249.out BK256.out (by decide)))) _).trans (((cell_far (p := ⟨gb256, _, none⟩) (by first | exact Kd.own_blk (Kd.R_ne HO249.out BK256.out (by decide)) | (rw [add_block]; exact Kd.own_blk (Kd.R_ne HO249.out BK256.out (by decide))) | (show (Addr.add _ _).block ≠ _; rw [add_block]; exact Kd.own_blk (Kd.R_ne HO249.out BK256.out (by decide))) | (dsimp only; exact Kd.own_blk (Kd.R_ne HO249.out BK256.out (by decide)))) _).trans (((cell_far (p := ⟨gb256, _, none⟩) (by first | exact Kd.own_blk (Kd.R_ne HO249.out BK256.out (by decide)) | (rw [add_block]; exact Kd.own_blk (Kd.R_ne HO249.out BK256.out (by decide))) | (show (Addr.add _ _).block ≠ _; rw [add_block]; exact Kd.own_blk (Kd.R_ne HO249.out BK256.out (by decide))) | (dsimp only; exact Kd.own_blk (Kd.R_ne HO249.out BK256.out (by decide)))) _).trans (((cell_far (p := ⟨gb256, _, none⟩) (by first | exact Kd.own_blk (Kd.R_ne HO249.out BK256.out (by decide)) | (rw [add_block]; exact Kd.own_blk (Kd.R_ne HO249.out BK256.out (by decide))) | (show (Addr.add _ _).block ≠ _; rw [add_block]; exact Kd.own_blk (Kd.R_ne HO249.out BK256.out (by decide))) | (dsimp only; exact Kd.own_blk (Kd.R_ne HO249.out BK256.out (by decide)))) _).trans (((cell_far (p := ⟨gb256, _, none⟩) (by first | exact Kd.own_blk (Kd.R_ne HO249.out BK256.out (by decide)) | (rw [add_block]; exact Kd.own_blk (Kd.R_ne HO249.out BK256.out (by decide))) | (show (Addr.add _ _).block ≠ _; rw [add_block]; exact Kd.own_blk (Kd.R_ne HO249.out BK256.out (by decide))) | (dsimp only; exact Kd.own_blk (Kd.R_ne HO249.out BK256.out (by decide)))) _).trans (((cell_far (p := ⟨gb256, _, none⟩) (by first | exact Kd.own_blk (Kd.R_ne HO249.out BK256.out (by decide)) | (rw [add_block]; exact Kd.own_blk (Kd.R_ne HO249.out BK256.out (by decide))) | (show (Addr.add _ _).block ≠ _; rw [add_block]; exact Kd.own_blk (Kd.R_ne HO249.out BK256.out (by decide))) | (dsimp only; exact Kd.own_blk (Kd.R_ne HO249.out BK256.out (by decide)))) _).trans (hHeld.2.2.2.2.2))))))))))))⟩ (fun hHeld => ?_)
                  clear hK K
                  refine done_ (done_of HT_.out (by kernel_rfl)) ?_
                  have hnb45 := NB256_241.out
                  have hnc45 := NB241_256.out
                  have hcz46_0 : w38.cell? ⟨gb256, 0, none⟩ = some (.int .i64 0) := (blk_cell BK256.out 0).trans rfl
                  have hcz46_1 : w38.cell? ⟨gb256, 1, none⟩ = some (.int .i64 0) := (blk_cell BK256.out 1).trans rfl
                  have hcz46_2 : w38.cell? ⟨gb256, 2, none⟩ = some (.int .i64 0) := (blk_cell BK256.out 2).trans rfl
                  have hcz46_3 : w38.cell? ⟨gb256, 3, none⟩ = some (.int .i64 0) := (blk_cell BK256.out 3).trans rfl
                  have hcz46_4 : w38.cell? ⟨gb256, 4, none⟩ = some (.int .i64 0) := (blk_cell BK256.out 4).trans rfl
                  have hcz46_5 : w38.cell? ⟨gb256, 5, none⟩ = some (.int .i64 0) := (blk_cell BK256.out 5).trans rfl
                  have hfz46_0 := blk_frozen BK256.out 0
                  have hfz46_1 := blk_frozen BK256.out 1
                  have hfz46_2 := blk_frozen BK256.out 2
                  have hfz46_3 := blk_frozen BK256.out 3
                  have hfz46_4 := blk_frozen BK256.out 4
                  have hfz46_5 := blk_frozen BK256.out 5
                  try go_wp2_with (first | ((with_reducible refine gate_callee (f := 20) rfl ?_); refine goesL_ (some 43) rfl rfl Try.func20 (by kernel_rfl) rfl #[.agg #[.int .i64 (rd t245 0), .int .i64 (rd t245 1), .int .i64 (wrap64 ((rd t245 2) - 1)), .int .i64 (rd t245 3), .int .i64 (rd t245 4), .int .i64 (rd t245 5)]] rfl (by (try simp only [List.map_toArray, List.map_cons, List.map_nil]); first | done | rfl | (simp only [List.length_drop, List.length_take]; rfl)) ?_; (with_reducible refine (wayfinderref04_May.calls k (rd t245 0) (rd t245 1) (wrap64 ((rd t245 2) - 1)) (rd t245 3) (rd t245 4) (rd t245 5) false _ A10.out).mono ?_); rintro e w47 ⟨rfl, hb⟩; refine ⟨_, rfl, ?_⟩; have n0_ := Aside0.mk (Kd.R_below (by (with_reducible repeat (first | apply Kd.R_alloc | apply Kd.R_drewN | apply Kd.R_drew)); exact (Kd.R_mono (Kd.R_far (p := ⟨gb256, 5, none⟩) (Kd.R_far (p := ⟨gb256, 4, none⟩) (Kd.R_far (p := ⟨gb256, 3, none⟩) (Kd.R_far (p := ⟨gb256, 2, none⟩) (Kd.R_far (p := ⟨gb256, 1, none⟩) (Kd.R_far (p := ⟨gb256, 0, none⟩) (Kd.R_types HO244.out BK256.out (by decide)) (fun _ hk => hk.2) (.int .i64 (rd t245 0))) (fun _ hk => hk.2) (.int .i64 (rd t245 1))) (fun _ hk => hk.2) (.int .i64 (wrap64 ((rd t245 2) - 1)))) (fun _ hk => hk.2) (.int .i64 (rd t245 3))) (fun _ hk => hk.2) (.int .i64 (rd t245 4))) (fun _ hk => hk.2) (.int .i64 (rd t245 5))) (fun _ h_ => h_.1))) hb); have n1_ := Aside0.mk (Kd.R_below (by (with_reducible repeat (first | apply Kd.R_alloc | apply Kd.R_drewN | apply Kd.R_drew)); exact (Kd.R_mono (Kd.R_far (p := ⟨gb256, 5, none⟩) (Kd.R_far (p := ⟨gb256, 4, none⟩) (Kd.R_far (p := ⟨gb256, 3, none⟩) (Kd.R_far (p := ⟨gb256, 2, none⟩) (Kd.R_far (p := ⟨gb256, 1, none⟩) (Kd.R_far (p := ⟨gb256, 0, none⟩) (Kd.R_types HO249.out BK256.out (by decide)) (fun _ hk => hk.2) (.int .i64 (rd t245 0))) (fun _ hk => hk.2) (.int .i64 (rd t245 1))) (fun _ hk => hk.2) (.int .i64 (wrap64 ((rd t245 2) - 1)))) (fun _ hk => hk.2) (.int .i64 (rd t245 3))) (fun _ hk => hk.2) (.int .i64 (rd t245 4))) (fun _ hk => hk.2) (.int .i64 (rd t245 5))) (fun _ h_ => h_.1))) hb); have n2_ := Aside0.mk (blk_below (g := gb241) (o := .cells #[.int .i64 0, .int .i64 0, .int .i64 0, .int .i64 0, .int .i64 0, .int .i64 0] 27 (0, 0)) (by (with_reducible repeat (first | refine blk_drewN ?_ _ | refine blk_drew ?_ | refine blk_alloc ?_ _)); refine blk_far ?_ NB241_256.out _; (with_reducible repeat (first | refine blk_drewN ?_ _ | refine blk_drew ?_ | refine blk_alloc ?_ _)); refine blk_far ?_ NB241_256.out _; (with_reducible repeat (first | refine blk_drewN ?_ _ | refine blk_drew ?_ | refine blk_alloc ?_ _)); refine blk_far ?_ NB241_256.out _; (with_reducible repeat (first | refine blk_drewN ?_ _ | refine blk_drew ?_ | refine blk_alloc ?_ _)); refine blk_far ?_ NB241_256.out _; (with_reducible repeat (first | refine blk_drewN ?_ _ | refine blk_drew ?_ | refine blk_alloc ?_ _)); refine blk_far ?_ NB241_256.out _; (with_reducible repeat (first | refine blk_drewN ?_ _ | refine blk_drew ?_ | refine blk_alloc ?_ _)); refine blk_far ?_ NB241_256.out _; (with_reducible repeat (first | refine blk_drewN ?_ _ | refine blk_drew ?_ | refine blk_alloc ?_ _)); exact BK241.out) hb); have n3_ := Aside0.mk (blk_below (g := gb256) (o := .cells #[.int .i64 (rd t245 0), .int .i64 (rd t245 1), .int .i64 (wrap64 ((rd t245 2) - 1)), .int .i64 (rd t245 3), .int .i64 (rd t245 4), .int .i64 (rd t245 5)] 27 (0, 0)) (by (with_reducible repeat (first | refine blk_drewN ?_ _ | refine blk_drew ?_ | refine blk_alloc ?_ _)); refine blk_put (cs := #[.int .i64 (rd t245 0), .int .i64 (rd t245 1), .int .i64 (wrap64 ((rd t245 2) - 1)), .int .i64 (rd t245 3), .int .i64 (rd t245 4), .int .i64 0]) ?_ 5 _ rfl; (with_reducible repeat (first | refine blk_drewN ?_ _ | refine blk_drew ?_ | refine blk_alloc ?_ _)); refine blk_put (cs := #[.int .i64 (rd t245 0), .int .i64 (rd t245 1), .int .i64 (wrap64 ((rd t245 2) - 1)), .int .i64 (rd t245 3), .int .i64 0, .int .i64 0]) ?_ 4 _ rfl; (with_reducible repeat (first | refine blk_drewN ?_ _ | refine blk_drew ?_ | refine blk_alloc ?_ _)); refine blk_put (cs := #[.int .i64 (rd t245 0), .int .i64 (rd t245 1), .int .i64 (wrap64 ((rd t245 2) - 1)), .int .i64 0, .int .i64 0, .int .i64 0]) ?_ 3 _ rfl; (with_reducible repeat (first | refine blk_drewN ?_ _ | refine blk_drew ?_ | refine blk_alloc ?_ _)); refine blk_put (cs := #[.int .i64 (rd t245 0), .int .i64 (rd t245 1), .int .i64 0, .int .i64 0, .int .i64 0, .int .i64 0]) ?_ 2 _ rfl; (with_reducible repeat (first | refine blk_drewN ?_ _ | refine blk_drew ?_ | refine blk_alloc ?_ _)); refine blk_put (cs := #[.int .i64 (rd t245 0), .int .i64 0, .int .i64 0, .int .i64 0, .int .i64 0, .int .i64 0]) ?_ 1 _ rfl; (with_reducible repeat (first | refine blk_drewN ?_ _ | refine blk_drew ?_ | refine blk_alloc ?_ _)); refine blk_put (cs := #[.int .i64 0, .int .i64 0, .int .i64 0, .int .i64 0, .int .i64 0, .int .i64 0]) ?_ 0 _ rfl; (with_reducible repeat (first | refine blk_drewN ?_ _ | refine blk_drew ?_ | refine blk_alloc ?_ _)); exact BK256.out) hb); have n4_ := Aside0.mk (below_step (by repeat (first | (with_reducible first | exact HB.out | apply below_alloc | apply pw_below_drewN | apply below_drew1 | refine below_set ?_ GE241.out | refine below_set ?_ GE256.out) | exact HB.out)) hb); clear HO244; clear HO249; clear BK241; clear BK256; clear HB; have HO244 := n0_; have HO249 := n1_; have BK241 := n2_; have BK256 := n3_; have HB := n4_; clear n0_ n1_ n2_ n3_ n4_; (try clear hb); (try clear hb2); (try clear hk); (try clear hi); have hcz48_0 : w47.cell? ⟨gb241, 0, none⟩ = some (.int .i64 0) := (blk_cell BK241.out 0).trans rfl; have hcz48_1 : w47.cell? ⟨gb241, 1, none⟩ = some (.int .i64 0) := (blk_cell BK241.out 1).trans rfl; have hcz48_2 : w47.cell? ⟨gb241, 2, none⟩ = some (.int .i64 0) := (blk_cell BK241.out 2).trans rfl; have hcz48_3 : w47.cell? ⟨gb241, 3, none⟩ = some (.int .i64 0) := (blk_cell BK241.out 3).trans rfl; have hcz48_4 : w47.cell? ⟨gb241, 4, none⟩ = some (.int .i64 0) := (blk_cell BK241.out 4).trans rfl; have hcz48_5 : w47.cell? ⟨gb241, 5, none⟩ = some (.int .i64 0) := (blk_cell BK241.out 5).trans rfl; have hfz48_0 := blk_frozen BK241.out 0; have hfz48_1 := blk_frozen BK241.out 1; have hfz48_2 := blk_frozen BK241.out 2; have hfz48_3 := blk_frozen BK241.out 3; have hfz48_4 := blk_frozen BK241.out 4; have hfz48_5 := blk_frozen BK241.out 5))
                  refine bodyPost_ret (results_ct rfl _ _ gb241 27 #[.int .i64 0, .int .i64 0, .int .i64 0, .int .i64 0, .int .i64 0, .int .i64 0] (0, 0) _ rfl (by (with_reducible repeat (first | refine blk_drewN ?_ _ | refine blk_drew ?_ | refine blk_alloc ?_ _)); refine blk_put (cs := #[.int .i64 0, .int .i64 0, .int .i64 0, .int .i64 0, .int .i64 0, .int .i64 0]) ?_ 5 _ rfl; (with_reducible repeat (first | refine blk_drewN ?_ _ | refine blk_drew ?_ | refine blk_alloc ?_ _)); refine blk_put (cs := #[.int .i64 0, .int .i64 0, .int .i64 0, .int .i64 0, .int .i64 0, .int .i64 0]) ?_ 4 _ rfl; (with_reducible repeat (first | refine blk_drewN ?_ _ | refine blk_drew ?_ | refine blk_alloc ?_ _)); refine blk_put (cs := #[.int .i64 0, .int .i64 0, .int .i64 0, .int .i64 0, .int .i64 0, .int .i64 0]) ?_ 3 _ rfl; (with_reducible repeat (first | refine blk_drewN ?_ _ | refine blk_drew ?_ | refine blk_alloc ?_ _)); refine blk_put (cs := #[.int .i64 0, .int .i64 0, .int .i64 0, .int .i64 0, .int .i64 0, .int .i64 0]) ?_ 2 _ rfl; (with_reducible repeat (first | refine blk_drewN ?_ _ | refine blk_drew ?_ | refine blk_alloc ?_ _)); refine blk_put (cs := #[.int .i64 0, .int .i64 0, .int .i64 0, .int .i64 0, .int .i64 0, .int .i64 0]) ?_ 1 _ rfl; (with_reducible repeat (first | refine blk_drewN ?_ _ | refine blk_drew ?_ | refine blk_alloc ?_ _)); refine blk_put (cs := #[.int .i64 0, .int .i64 0, .int .i64 0, .int .i64 0, .int .i64 0, .int .i64 0]) ?_ 0 _ rfl; (with_reducible repeat (first | refine blk_drewN ?_ _ | refine blk_drew ?_ | refine blk_alloc ?_ _)); exact BK241.out) Try.underlying27 rfl (by kernel_rfl)) rfl ?_
                  exact ⟨by first | rfl | (simp [errW_none, errW_some] <;> rfl) | (simp [*, errW_none, errW_some] <;> rfl), by repeat (first | (with_reducible first | exact HB.out | apply below_alloc | apply pw_below_drewN | apply below_drew1 | refine below_set ?_ GE241.out | refine below_set ?_ GE256.out) | exact HB.out)⟩
              · rw [if_neg c9] at H
                exact absurd H (by simp)
            · rw [if_neg c8] at H
              exact absurd H (by simp)
          · rw [if_neg c7] at H
            exact absurd H (by simp)
        · rw [if_neg c6] at H
          exact absurd H (by simp)
      · rw [if_neg c5] at H
        exact absurd H (by simp)
    · rw [if_neg c4] at H
      exact absurd H (by simp)
  · rw [if_neg c3] at H
    have c3b0 : (t247 == 0) = false := beq_eq_false_iff_ne.mpr c3
    have c3b1 : (t247 != 0) = true := bne_iff_ne.mpr c3
    simp only [Option.some.injEq, Prod.mk.injEq] at H
    obtain ⟨rfl, rfl, rfl, rfl, rfl, rfl, rfl⟩ := H
    go_enter Try.func26, Try.ntmps26
    go_wp2_with (first | ((with_reducible refine gate_dst (N := 2) rfl ?_); refine box_event ?hg (N := 2) ?hd (cs := #[.int .i64 0, .int .i64 0, .int .i64 0, .int .i64 0, .int .i64 0, .int .i64 0]) (t := 27) ?hr ?_; (case hd => rfl); (case hg => rfl); (case hr => first | (go_simp; done) | (go_simp; rfl)); intro gb241 hg w49 hbox hb; have n0_ := Aside0.mk (below_step (by repeat (first | (with_reducible first | exact HB.out | apply below_alloc | apply pw_below_drewN | apply below_drew1) | exact HB.out)) hb); have n1_ := Aside0.mk (hbox); have n2_ := Aside0.mk ((by rw [hg]; exact (below_size (by repeat (first | (with_reducible first | exact HB.out | apply below_alloc | apply pw_below_drewN | apply below_drew1) | exact HB.out))) : w.heap.size ≤ gb241)); have n3_ := Aside0.mk ((by rw [hg]; exact (below_size (by repeat (first | (with_reducible first | exact HB.out | apply below_alloc | apply pw_below_drewN | apply below_drew1) | exact HB.out))) : w.heap.size ≤ gb241)); clear HB; have HB := n0_; have BK241 := n1_; have GW241 := n2_; have GE241 := n3_; clear n0_ n1_ n2_ n3_; clear hb hbox hg) | ((with_reducible refine gate_dst (N := 11) rfl ?_); refine Kd.R_lit (Kd.int .i64) _ 3 ?hg (N := 11) ?hd (xs := ([4, 1, 1, 1, 1, 1] : List Int)) (inner := [.int .i64 4, .int .i64 1, .int .i64 1, .int .i64 1, .int .i64 1, .int .i64 1]) (ok := fun _ => True) (okp := fun _ => True) ?hr ?hp (fun _ hk => hk) trivial (Below.refl _ _) (Nat.le_refl _) (by simp) ?_; (case hd => rfl); (case hg => rfl); (case hr => first | (go_simp; done) | (go_simp; rfl)); (case hp => exact (Reps.one (show Kd.M (Kd.int .i64) _ _ _ 4 [.int .i64 4] from rfl) (Reps.one (show Kd.M (Kd.int .i64) _ _ _ 1 [.int .i64 1] from rfl) (Reps.one (show Kd.M (Kd.int .i64) _ _ _ 1 [.int .i64 1] from rfl) (Reps.one (show Kd.M (Kd.int .i64) _ _ _ 1 [.int .i64 1] from rfl) (Reps.one (show Kd.M (Kd.int .i64) _ _ _ 1 [.int .i64 1] from rfl) (Reps.one (show Kd.M (Kd.int .i64) _ _ _ 1 [.int .i64 1] from rfl) (Reps.none _ _)))))))); intro v243 w50 ho51 hb hg_ hnew_; clear hg_ hnew_; (first | rw [← Ny242.out] at ho51 | (simp only [Int.reduceToNat] at ho51; rw [← Ny242.out] at ho51)); have n0_ := Aside0.mk (Kd.R_lower ho51 (below_size (by repeat (first | (with_reducible first | exact HB.out | apply below_alloc | apply pw_below_drewN | apply below_drew1 | refine below_set ?_ GE241.out) | exact HB.out)))); have n1_ := Aside0.mk (blk_below (g := gb241) (o := .cells #[.int .i64 0, .int .i64 0, .int .i64 0, .int .i64 0, .int .i64 0, .int .i64 0] 27 (0, 0)) (by (with_reducible repeat (first | refine blk_drewN ?_ _ | refine blk_drew ?_ | refine blk_alloc ?_ _)); exact BK241.out) hb); have n2_ := Aside0.mk (below_step (by repeat (first | (with_reducible first | exact HB.out | apply below_alloc | apply pw_below_drewN | apply below_drew1 | refine below_set ?_ GE241.out) | exact HB.out)) hb); clear BK241; clear HB; have HO244 := n0_; have BK241 := n1_; have HB := n2_; clear n0_ n1_ n2_; clear hb ho51; obtain ⟨Ao52, co52, eo52⟩ := Kd.R_slice HO244.out; subst eo52) | ((with_reducible refine gate_callee (f := 35) rfl ?_); refine goesL_ (some 12) rfl rfl Try.func35 (by kernel_rfl) rfl #[.slice A0 l0.length c0, .slice Ao52 y242.length co52] rfl (by (try simp only [List.map_toArray, List.map_cons, List.map_nil]); first | done | rfl | (simp only [List.length_drop, List.length_take]; rfl)) ?_; (with_reducible refine (wayfinderref02_GetAll.calls k _ _ l0 _ _ y242 t245 t246 t247 _ ?side1 ?side2 ?side3 ?side4 A2.out).mono ?_); (case side1 => repeat (first | exact (Kd.C_below HR0.out HB.out) | (with_reducible refine Kd.C_alloc ?_ _) | (with_reducible refine Kd.C_drewN ?_ _) | (with_reducible refine Kd.C_drew ?_))); (case side2 => exact HC0.out); (case side3 => repeat (first | exact (Kd.R_reads' HO244.out).2.2 | (with_reducible refine Kd.C_alloc ?_ _) | (with_reducible refine Kd.C_drewN ?_ _) | (with_reducible refine Kd.C_drew ?_))); (case side4 => exact (Kd.R_reads' HO244.out).2.1); rintro e w53 ⟨v248, rfl, ho0, hb⟩; refine ⟨_, rfl, ?_⟩; have n0_ := Aside0.mk (Kd.R_elder' (by (with_reducible repeat (first | apply Kd.R_alloc | apply Kd.R_drewN | apply Kd.R_drew)); exact HO244.out) (Kd.R_base ho0) hb); have n1_ := Aside0.mk (Kd.R_lower (Kd.R_new' ho0 (Kd.R_lt (by (with_reducible repeat (first | apply Kd.R_alloc | apply Kd.R_drewN | apply Kd.R_drew)); exact HO244.out))) (below_size (by repeat (first | (with_reducible first | exact HB.out | apply below_alloc | apply pw_below_drewN | apply below_drew1 | refine below_set ?_ GE241.out) | exact HB.out)))); have n2_ := Aside0.mk (blk_below (g := gb241) (o := .cells #[.int .i64 0, .int .i64 0, .int .i64 0, .int .i64 0, .int .i64 0, .int .i64 0] 27 (0, 0)) (by (with_reducible repeat (first | refine blk_drewN ?_ _ | refine blk_drew ?_ | refine blk_alloc ?_ _)); exact BK241.out) hb); have n3_ := Aside0.mk (below_step (by repeat (first | (with_reducible first | exact HB.out | apply below_alloc | apply pw_below_drewN | apply below_drew1 | refine below_set ?_ GE241.out) | exact HB.out)) hb); clear HO244; clear BK241; clear HB; have HO244 := n0_; have HO249 := n1_; have BK241 := n2_; have HB := n3_; clear n0_ n1_ n2_ n3_; (try clear hb); (try clear hb2); (try clear hk); (try clear hi); (try clear ho0); have hcz54_0 : w53.cell? ⟨gb241, 0, none⟩ = some (.int .i64 0) := (blk_cell BK241.out 0).trans rfl; have hcz54_1 : w53.cell? ⟨gb241, 1, none⟩ = some (.int .i64 0) := (blk_cell BK241.out 1).trans rfl; have hcz54_2 : w53.cell? ⟨gb241, 2, none⟩ = some (.int .i64 0) := (blk_cell BK241.out 2).trans rfl; have hcz54_3 : w53.cell? ⟨gb241, 3, none⟩ = some (.int .i64 0) := (blk_cell BK241.out 3).trans rfl; have hcz54_4 : w53.cell? ⟨gb241, 4, none⟩ = some (.int .i64 0) := (blk_cell BK241.out 4).trans rfl; have hcz54_5 : w53.cell? ⟨gb241, 5, none⟩ = some (.int .i64 0) := (blk_cell BK241.out 5).trans rfl; have hfz54_0 := blk_frozen BK241.out 0; have hfz54_1 := blk_frozen BK241.out 1; have hfz54_2 := blk_frozen BK241.out 2; have hfz54_3 := blk_frozen BK241.out 3; have hfz54_4 := blk_frozen BK241.out 4; have hfz54_5 := blk_frozen BK241.out 5))
    refine bodyPost_ret (results_ct rfl _ _ gb241 27 #[.int .i64 0, .int .i64 0, .int .i64 0, .int .i64 0, .int .i64 0, .int .i64 0] (0, 0) _ rfl (by (with_reducible repeat (first | refine blk_drewN ?_ _ | refine blk_drew ?_ | refine blk_alloc ?_ _)); refine blk_put (cs := #[.int .i64 0, .int .i64 0, .int .i64 0, .int .i64 0, .int .i64 0, .int .i64 0]) ?_ 5 _ rfl; (with_reducible repeat (first | refine blk_drewN ?_ _ | refine blk_drew ?_ | refine blk_alloc ?_ _)); refine blk_put (cs := #[.int .i64 0, .int .i64 0, .int .i64 0, .int .i64 0, .int .i64 0, .int .i64 0]) ?_ 4 _ rfl; (with_reducible repeat (first | refine blk_drewN ?_ _ | refine blk_drew ?_ | refine blk_alloc ?_ _)); refine blk_put (cs := #[.int .i64 0, .int .i64 0, .int .i64 0, .int .i64 0, .int .i64 0, .int .i64 0]) ?_ 3 _ rfl; (with_reducible repeat (first | refine blk_drewN ?_ _ | refine blk_drew ?_ | refine blk_alloc ?_ _)); refine blk_put (cs := #[.int .i64 0, .int .i64 0, .int .i64 0, .int .i64 0, .int .i64 0, .int .i64 0]) ?_ 2 _ rfl; (with_reducible repeat (first | refine blk_drewN ?_ _ | refine blk_drew ?_ | refine blk_alloc ?_ _)); refine blk_put (cs := #[.int .i64 0, .int .i64 0, .int .i64 0, .int .i64 0, .int .i64 0, .int .i64 0]) ?_ 1 _ rfl; (with_reducible repeat (first | refine blk_drewN ?_ _ | refine blk_drew ?_ | refine blk_alloc ?_ _)); refine blk_put (cs := #[.int .i64 0, .int .i64 0, .int .i64 0, .int .i64 0, .int .i64 0, .int .i64 0]) ?_ 0 _ rfl; (with_reducible repeat (first | refine blk_drewN ?_ _ | refine blk_drew ?_ | refine blk_alloc ?_ _)); exact BK241.out) Try.underlying27 rfl (by kernel_rfl)) rfl ?_
    exact ⟨by first | rfl | (simp [errW_none, errW_some] <;> rfl) | (simp [*, errW_none, errW_some] <;> rfl), by repeat (first | (with_reducible first | exact HB.out | apply below_alloc | apply pw_below_drewN | apply below_drew1 | refine below_set ?_ GE241.out) | exact HB.out)⟩

end Go.Proofs.Ytjnbnjlkljpbeaa.All
