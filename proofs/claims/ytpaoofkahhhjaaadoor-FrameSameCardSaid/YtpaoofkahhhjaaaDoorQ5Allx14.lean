/- Contracts of Go functions that this seat comes to, each with a plain function that tells its answers; conditions: those that each contract names. Written by a program of this session (wip/print) over the print words. -/
import Derived.Test.YtpaoofkahhhjaaaDoorQ5Allx0
import Derived.Test.YtpaoofkahhhjaaaDoorQ5Allx6
import Derived.Test.YtpaoofkahhhjaaaDoorQ5Allx13
namespace Go.Proofs.YtpaoofkahhhjaaaDoor.All
open Go.RowKit Go.Proofs.YtpaoofkahhhjaaaDoorW.PrintWords Go.Proofs.YtpaoofkahhhjaaaDoorW.PrintLast Go.Proofs.YtpaoofkahhhjaaaDoorW.PrintMore
attribute [local go_sem] max2_int min2_int max_two min_two max_three min_three max_four min_four
set_option linter.unusedVariables false
set_option linter.unusedSimpArgs false
def rule_Get.f (k : Nat) (l0 : List Int) : Option (Int × Int × Int × Int × Int × Int × Int) := if (l0.length : Int) < 9 then (some (0, 0, 0, 0, 0, 0, 3)) else ((octets_Get.f k l0 4).bind fun Qj => (if 4 < (l0.length : Int) then (if 5 < (l0.length : Int) then (if 6 < (l0.length : Int) then (if 7 < (l0.length : Int) then (if 8 < (l0.length : Int) then (if Qj.2 = 0 then ((rule_May.f Qj.1 (wrap64 (rd l0 4)) (wrap64 ((wrap64 (rd l0 5)) - 1)) (wrap64 (rd l0 6)) (wrap64 (rd l0 7)) (wrap64 (rd l0 8))).bind fun t283 => (if t283 = true then (some (Qj.1, wrap64 (rd l0 4), wrap64 ((wrap64 (rd l0 5)) - 1), wrap64 (rd l0 6), wrap64 (rd l0 7), wrap64 (rd l0 8), 0)) else (some (0, 0, 0, 0, 0, 0, 2)))) else (some (0, 0, 0, 0, 0, 0, 2))) else (none)) else (none)) else (none)) else (none)) else (none)))
theorem rule_Get.mono : ∀ a0 k, LeO (rule_Get.f k a0) (rule_Get.f (k + 1) a0) := by
 intro a0 k
 unfold rule_Get.f
 repeat' first
   | (with_reducible exact octets_Get.mono _ _ _)
   | (with_reducible exact LeO.refl _)
   | (with_reducible exact LeO.none _)
   | (with_reducible refine LeO.ite ?_ ?_)
   | (with_reducible refine LeO.bind ?_ (fun _ => ?_))
   | exact octets_Get.mono _ _ _
   | exact LeO.none _
   | refine LeO.ite ?_ ?_
   | refine LeO.bind ?_ (fun _ => ?_)
def rule_Get.T4 : Bool × List (List Nat × List Nat) := (true, [([], []), ([], []), ([1], [1]), ([2], [2]), ([3], [3]), ([0, 4], [0, 4]), ([], []), ([6], [6]), ([7], [7]), ([8], [8]), ([9], [9]), ([], []), ([11], [11]), ([12], [12]), ([13], [13]), ([], []), ([15], [15]), ([16], [16]), ([17], [17]), ([], []), ([19], [19]), ([20], [20]), ([21], [21]), ([18, 22], [18, 22]), ([5, 10, 14, 23], [5, 10, 14, 23]), ([], []), ([25, 24, 0, 1, 2, 3, 4, 5, 6, 7, 8, 9, 10, 11, 12, 13, 14, 15, 16, 17, 18, 19, 20, 21, 22, 23, 24, 25], [24, 25])])
def rule_Get.B4 : List Nat := [0, 0, 2, 6, 14, 31, 0, 64, 192, 448, 960, 0, 2048, 6144, 14336, 0, 32768, 98304, 229376, 0, 524288, 1572864, 3670016, 8355840, 16777215, 0, 67108863]
theorem rule_Get.tab4 : rtab .any (opsOf Tryd.f39 4) = rule_Get.T4 := by kernel_rfl
theorem rule_Get.bits4 : waitsOk rule_Get.T4.2 rule_Get.B4 = true := by kernel_rfl
set_option maxHeartbeats 8000000 in
set_option maxRecDepth 100000 in
theorem rule_Get.calls (k : Nat) (A0 : Option Addr) (c0 : Nat) (l0 : List Int) (r1 : Int) (r2 : Int) (r3 : Int) (r4 : Int) (r5 : Int) (r6 : Int) (r7 : Int) (w : World) (hr0 : Kd.C (Kd.int .u8) w A0 l0.length l0) (hc0 : l0.length ≤ c0) (h : rule_Get.f k l0 = some (r1, r2, r3, r4, r5, r6, r7)) :
  Calls Tryd.prog 39 #[.slice A0 l0.length c0] w fun e w' => e = .returned (.tuple #[.agg #[.int .i64 r1, .int .i64 r2, .int .i64 r3, .int .i64 r4, .int .i64 r5, .int .i64 r6], .int .i64 r7]) ∧ Below w.heap.size w w' := by
 have hu27 := Tryd.underlying27
 have hu23 := Tryd.underlying23
 have hu25 := Tryd.underlying25
 have HR0 := Aside0.mk hr0
 have HC0 := Aside0.mk hc0
 clear hr0 hc0
 have HB := Aside0.mk (Below.refl w.heap.size w)
 have H : (if (l0.length : Int) < 9 then (some (0, 0, 0, 0, 0, 0, 3)) else ((octets_Get.f k l0 4).bind fun Qj => (if 4 < (l0.length : Int) then (if 5 < (l0.length : Int) then (if 6 < (l0.length : Int) then (if 7 < (l0.length : Int) then (if 8 < (l0.length : Int) then (if Qj.2 = 0 then ((rule_May.f Qj.1 (wrap64 (rd l0 4)) (wrap64 ((wrap64 (rd l0 5)) - 1)) (wrap64 (rd l0 6)) (wrap64 (rd l0 7)) (wrap64 (rd l0 8))).bind fun t283 => (if t283 = true then (some (Qj.1, wrap64 (rd l0 4), wrap64 ((wrap64 (rd l0 5)) - 1), wrap64 (rd l0 6), wrap64 (rd l0 7), wrap64 (rd l0 8), 0)) else (some (0, 0, 0, 0, 0, 0, 2)))) else (some (0, 0, 0, 0, 0, 0, 2))) else (none)) else (none)) else (none)) else (none)) else (none)))) = some (r1, r2, r3, r4, r5, r6, r7) := h
 clear h
 by_cases c2 : (l0.length : Int) < 9
 ·rw [if_pos c2] at H
  have c2b0 : decide ((l0.length : Int) < 9) = true := decide_eq_true c2
  have c2b1 : decide (l0.length < 9) = true := decide_eq_true (by omega)
  clear c2
  simp only [Option.some.injEq, Prod.mk.injEq] at H
  obtain ⟨rfl, rfl, rfl, rfl, rfl, rfl, rfl⟩ := H
  go_enter Tryd.func39, Tryd.ntmps39
  go_wp2_with (first | ((with_reducible refine qqs (N := 2) rfl ?_); refine box_event ?hg (N := 2) ?hd (cs := #[.int .i64 0, .int .i64 0, .int .i64 0, .int .i64 0, .int .i64 0, .int .i64 0]) (t := 27) ?hr ?_; (case hd => rfl); (case hg => rfl); (case hr => first | (go_simp; done) | (go_simp; rfl)); intro Qh hg w3 hbox hb; have n0_ := bst HB hb; have n1_ := Aside0.mk (hbox); have n2_ := szl HB hg; have n3_ := szl HB hg; clear HB; have HB := n0_; have Q9 := n1_; have GW274 := n2_; have GE274 := n3_; clear n0_ n1_ n2_ n3_; clear hb hbox hg; obtain ⟨_, _, _, _, _, _⟩ := bcells6 Q9.out; obtain ⟨_, _, _, _, _, _⟩ := bfrozen6 Q9.out))
  refine bodyPost_ret (results_ct rfl _ _ Qh 27 #[.int .i64 0, .int .i64 0, .int .i64 0, .int .i64 0, .int .i64 0, .int .i64 0] (0, 0) _ rfl (by exact bput6 Q9.out) Tryd.underlying27 rfl (by kernel_rfl)) rfl ?_
  exact ⟨by first | rfl | (simp [qqj, qqi] <;> rfl) | (simp [*, qqj, qqi] <;> rfl), by repeat (first | (with_reducible first | exact HB.out | apply qqc | apply qqa | apply qqb | refine qqd ?_ GE274.out) | exact HB.out)⟩
 ·rw [if_neg c2] at H
  have c2b0 : decide ((l0.length : Int) < 9) = false := decide_eq_false c2
  have c2b1 : decide (l0.length < 9) = false := decide_eq_false (by omega)
  clear c2
  replace H := Option.bind_eq_some_iff.mp H
  obtain ⟨⟨Qi, t276⟩, A50, H⟩ := H
  replace H : (if 4 < (l0.length : Int) then (if 5 < (l0.length : Int) then (if 6 < (l0.length : Int) then (if 7 < (l0.length : Int) then (if 8 < (l0.length : Int) then (if t276 = 0 then ((rule_May.f Qi (wrap64 (rd l0 4)) (wrap64 ((wrap64 (rd l0 5)) - 1)) (wrap64 (rd l0 6)) (wrap64 (rd l0 7)) (wrap64 (rd l0 8))).bind fun t283 => (if t283 = true then (some (Qi, wrap64 (rd l0 4), wrap64 ((wrap64 (rd l0 5)) - 1), wrap64 (rd l0 6), wrap64 (rd l0 7), wrap64 (rd l0 8), 0)) else (some (0, 0, 0, 0, 0, 0, 2)))) else (some (0, 0, 0, 0, 0, 0, 2))) else (none)) else (none)) else (none)) else (none)) else (none)) = some (r1, r2, r3, r4, r5, r6, r7) := H
  have A5 := Aside0.mk A50
  clear A50
  by_cases c6 : 4 < (l0.length : Int)
  ·rw [if_pos c6] at H
   have c6b0 : decide (4 < (l0.length : Int)) = true := decide_eq_true c6
   have c6b1 : decide (4 < l0.length) = true := decide_eq_true (by omega)
   clear c6
   by_cases c7 : 5 < (l0.length : Int)
   ·rw [if_pos c7] at H
    have c7b0 : decide (5 < (l0.length : Int)) = true := decide_eq_true c7
    have c7b1 : decide (5 < l0.length) = true := decide_eq_true (by omega)
    clear c7
    by_cases c8 : 6 < (l0.length : Int)
    ·rw [if_pos c8] at H
     have c8b0 : decide (6 < (l0.length : Int)) = true := decide_eq_true c8
     have c8b1 : decide (6 < l0.length) = true := decide_eq_true (by omega)
     clear c8
     by_cases c9 : 7 < (l0.length : Int)
     ·rw [if_pos c9] at H
      have c9b0 : decide (7 < (l0.length : Int)) = true := decide_eq_true c9
      have c9b1 : decide (7 < l0.length) = true := decide_eq_true (by omega)
      clear c9
      by_cases c10 : 8 < (l0.length : Int)
      ·rw [if_pos c10] at H
       have c10b0 : decide (8 < (l0.length : Int)) = true := decide_eq_true c10
       have c10b1 : decide (8 < l0.length) = true := decide_eq_true (by omega)
       clear c10
       by_cases c11 : t276 = 0
       ·rw [if_pos c11] at H
        have c11b0 : (t276 == 0) = true := beq_iff_eq.mpr c11
        have c11b1 : (t276 != 0) = false := bne_eq_false_iff_eq.mpr c11
        clear c11
        replace H := Option.bind_eq_some_iff.mp H
        obtain ⟨t283, A120, H⟩ := H
        replace H : (if t283 = true then (some (Qi, wrap64 (rd l0 4), wrap64 ((wrap64 (rd l0 5)) - 1), wrap64 (rd l0 6), wrap64 (rd l0 7), wrap64 (rd l0 8), 0)) else (some (0, 0, 0, 0, 0, 0, 2))) = some (r1, r2, r3, r4, r5, r6, r7) := H
        have A12 := Aside0.mk A120
        clear A120
        by_cases c13 : t283 = true
        ·subst c13
         have H1 : (some (Qi, wrap64 (rd l0 4), wrap64 ((wrap64 (rd l0 5)) - 1), wrap64 (rd l0 6), wrap64 (rd l0 7), wrap64 (rd l0 8), 0)) = some (r1, r2, r3, r4, r5, r6, r7) := by rw [if_pos rfl] at H; exact H
         clear H
         have H := H1
         clear H1
         simp only [Option.some.injEq, Prod.mk.injEq] at H
         obtain ⟨rfl, rfl, rfl, rfl, rfl, rfl, rfl⟩ := H
         go_enter Tryd.func39, Tryd.ntmps39
         try go_wp2_with (first | ((with_reducible refine qqs (N := 2) rfl ?_); refine box_event ?hg (N := 2) ?hd (cs := #[.int .i64 0, .int .i64 0, .int .i64 0, .int .i64 0, .int .i64 0, .int .i64 0]) (t := 27) ?hr ?_; (case hd => rfl); (case hg => rfl); (case hr => first | (go_simp; done) | (go_simp; rfl)); intro Qh hg w14 hbox hb; have n0_ := bst HB hb; have n1_ := Aside0.mk (hbox); have n2_ := szl HB hg; have n3_ := szl HB hg; clear HB; have HB := n0_; have Q9 := n1_; have GW274 := n2_; have GE274 := n3_; clear n0_ n1_ n2_ n3_; clear hb hbox hg) | ((with_reducible refine qqr (f := 45) rfl ?_); refine goesL_ (some 13) rfl rfl Tryd.func45 (by kernel_rfl) rfl #[.slice A0 l0.length c0, .int .i64 4] rfl (by (try simp only [List.map_toArray, List.map_cons, List.map_nil]); first | done | rfl | (simp only [List.length_drop, List.length_take]; rfl)) ?_; (with_reducible refine (octets_Get.calls k _ _ l0 4 Qi t276 _ ?side1 ?side2 A5.out).mono ?_); (case side1 => repeat (first | exact (Kd.C_below HR0.out HB.out) | (with_reducible refine Kd.C_alloc ?_ _) | (with_reducible refine Kd.C_drewN ?_ _) | (with_reducible refine Kd.C_drew ?_))); (case side2 => exact HC0.out); rintro e w' ⟨rfl, ⟨nd, rfl⟩⟩; refine ⟨_, rfl, ?_⟩; (try (rw [drewN_self w14]; generalize hq_ : World.drewN w14 _ = w14; have n0_ : Aside0 (w14.heap[Qh]? = some (.cells #[.int .i64 0, .int .i64 0, .int .i64 0, .int .i64 0, .int .i64 0, .int .i64 0] 27 (0, 0))) := ⟨by rw [← hq_]; exact (by (with_reducible repeat (first | refine qqg ?_ _ | refine qqk ?_ | refine qqh ?_ _)); exact Q9.out)⟩; have n1_ : Aside0 (Below w.heap.size w w14) := ⟨by rw [← hq_]; exact (by repeat (first | (with_reducible first | exact HB.out | apply qqc | apply qqa | apply qqb | refine qqd ?_ GE274.out) | exact HB.out))⟩; clear Q9 HB hq_; have Q9 := n0_; have HB := n1_; clear n0_ n1_))))
         replace Q9 := Aside0.mk (qqk Q9.out)
         replace HB := Aside0.mk (qqb HB.out)
         have p277 : 0 ≤ (4 : Int) := (by omega)
         have q277 : 4 < (l0.length : Int) := of_decide_eq_true (by first | (with_reducible assumption) | assumption)
         obtain ⟨Qb, e277, Qc⟩ := Kd.at_int HR0.out 4 p277 q277
         have Q1 := Qc
         (try rw [show ((4 : Int)).toNat = 4 from rfl] at Q1)
         (try rw [show 4 * 1 = 4 from rfl] at Q1)
         (try simp only [Nat.reduceMul, Nat.reduceEqDiff, Go.Addr.add, ↓reduceIte] at Q1)
         cases e277
         (try simp only [show (4 : Int).toNat = 4 from rfl, Nat.reduceMul, Nat.reduceEqDiff, Go.Addr.add, ↓reduceIte] at Qc)
         have qi277 : (4 < l0.length) = True := eq_true (by omega)
         (try rw [show ((4 : Int)).toNat = 4 from rfl] at Qc)
         replace Qc := (HB.out.cell (World.block_lt_of_cell? w _ Qc)).trans Qc
         replace p277 := eq_true p277
         replace q277 := eq_true q277
         have p278 : 0 ≤ (5 : Int) := (by omega)
         have q278 : 5 < (l0.length : Int) := of_decide_eq_true (by first | (with_reducible assumption) | assumption)
         obtain ⟨Qk, e278, Qd⟩ := Kd.at_int HR0.out 5 p278 q278
         have Q2 := Qd
         (try rw [show ((5 : Int)).toNat = 5 from rfl] at Q2)
         (try rw [show 5 * 1 = 5 from rfl] at Q2)
         (try simp only [Nat.reduceMul, Nat.reduceEqDiff, Go.Addr.add, ↓reduceIte] at Q2)
         obtain rfl : Qb = Qk := (by injection e278)
         (try simp only [show (5 : Int).toNat = 5 from rfl, Nat.reduceMul, Nat.reduceEqDiff, Go.Addr.add, ↓reduceIte] at Qd)
         have qi278 : (5 < l0.length) = True := eq_true (by omega)
         (try rw [show ((5 : Int)).toNat = 5 from rfl] at Qd)
         replace Qd := (HB.out.cell (World.block_lt_of_cell? w _ Qd)).trans Qd
         replace p278 := eq_true p278
         replace q278 := eq_true q278
         have p279 : 0 ≤ (6 : Int) := (by omega)
         have q279 : 6 < (l0.length : Int) := of_decide_eq_true (by first | (with_reducible assumption) | assumption)
         obtain ⟨Qm, e279, Qe⟩ := Kd.at_int HR0.out 6 p279 q279
         have Q3 := Qe
         (try rw [show ((6 : Int)).toNat = 6 from rfl] at Q3)
         (try rw [show 6 * 1 = 6 from rfl] at Q3)
         (try simp only [Nat.reduceMul, Nat.reduceEqDiff, Go.Addr.add, ↓reduceIte] at Q3)
         obtain rfl : Qb = Qm := (by injection e279)
         (try simp only [show (6 : Int).toNat = 6 from rfl, Nat.reduceMul, Nat.reduceEqDiff, Go.Addr.add, ↓reduceIte] at Qe)
         have qi279 : (6 < l0.length) = True := eq_true (by omega)
         (try rw [show ((6 : Int)).toNat = 6 from rfl] at Qe)
         replace Qe := (HB.out.cell (World.block_lt_of_cell? w _ Qe)).trans Qe
         replace p279 := eq_true p279
         replace q279 := eq_true q279
         have p280 : 0 ≤ (7 : Int) := (by omega)
         have q280 : 7 < (l0.length : Int) := of_decide_eq_true (by first | (with_reducible assumption) | assumption)
         obtain ⟨Qn, e280, Qf⟩ := Kd.at_int HR0.out 7 p280 q280
         have Q4 := Qf
         (try rw [show ((7 : Int)).toNat = 7 from rfl] at Q4)
         (try rw [show 7 * 1 = 7 from rfl] at Q4)
         (try simp only [Nat.reduceMul, Nat.reduceEqDiff, Go.Addr.add, ↓reduceIte] at Q4)
         obtain rfl : Qb = Qn := (by injection e280)
         (try simp only [show (7 : Int).toNat = 7 from rfl, Nat.reduceMul, Nat.reduceEqDiff, Go.Addr.add, ↓reduceIte] at Qf)
         have qi280 : (7 < l0.length) = True := eq_true (by omega)
         (try rw [show ((7 : Int)).toNat = 7 from rfl] at Qf)
         replace Qf := (HB.out.cell (World.block_lt_of_cell? w _ Qf)).trans Qf
         replace p280 := eq_true p280
         replace q280 := eq_true q280
         have p281 : 0 ≤ (8 : Int) := (by omega)
         have q281 : 8 < (l0.length : Int) := of_decide_eq_true (by first | (with_reducible assumption) | assumption)
         obtain ⟨Qo, e281, Qg⟩ := Kd.at_int HR0.out 8 p281 q281
         have Q5 := Qg
         (try rw [show ((8 : Int)).toNat = 8 from rfl] at Q5)
         (try rw [show 8 * 1 = 8 from rfl] at Q5)
         (try simp only [Nat.reduceMul, Nat.reduceEqDiff, Go.Addr.add, ↓reduceIte] at Q5)
         obtain rfl : Qb = Qo := (by injection e281)
         (try simp only [show (8 : Int).toNat = 8 from rfl, Nat.reduceMul, Nat.reduceEqDiff, Go.Addr.add, ↓reduceIte] at Qg)
         have qi281 : (8 < l0.length) = True := eq_true (by omega)
         (try rw [show ((8 : Int)).toNat = 8 from rfl] at Qg)
         replace Qg := (HB.out.cell (World.block_lt_of_cell? w _ Qg)).trans Qg
         replace p281 := eq_true p281
         replace q281 := eq_true q281
         refine start_ (n := 27) (S := fun w' => w'.cell? ⟨Qb.block, Qb.off + 4, none⟩ = some (.int .u8 (rd l0 4)) ∧ w'.cell? ⟨Qb.block, Qb.off + 5, none⟩ = some (.int .u8 (rd l0 5)) ∧ w'.cell? ⟨Qb.block, Qb.off + 6, none⟩ = some (.int .u8 (rd l0 6)) ∧ w'.cell? ⟨Qb.block, Qb.off + 7, none⟩ = some (.int .u8 (rd l0 7)) ∧ w'.cell? ⟨Qb.block, Qb.off + 8, none⟩ = some (.int .u8 (rd l0 8))) (ds := []) #[false, false, false, false, false, false, false, false, false, false, false, false, false, false, false, false, false, false, false, false, false, false, false, false, false, false, false] (by kernel_rfl) rfl rfl ⟨((HB.out.cell (World.block_lt_of_cell? w _ Q1)).trans Q1), ((HB.out.cell (World.block_lt_of_cell? w _ Q2)).trans Q2), ((HB.out.cell (World.block_lt_of_cell? w _ Q3)).trans Q3), ((HB.out.cell (World.block_lt_of_cell? w _ Q4)).trans Q4), ((HB.out.cell (World.block_lt_of_cell? w _ Q5)).trans Q5)⟩ (fun hHeld => ?_); refine with_tabW rule_Get.tab4 rule_Get.bits4 (fun HT_ HW_ => ?_)
         generalize w14.drew = w15 at Q9 HB Qc Qd Qe Qf Qg hHeld ⊢
         refine pure_ (i := 0) (N := some 16) (v := ?_) (a' := ?_) #[true, false, false, false, false, false, false, false, false, false, false, false, false, false, false, false, false, false, false, false, false, false, false, false, false, false, false] rfl rfl (qqn HT_.out (by kernel_rfl)) (fun _ _ _ h => h) (Or.inl ⟨by rfl, ?_⟩) ?_ ?_
         rotate_left
         ·intro w'
          go_simp
          with_reducible rfl
         rotate_left
         ·simp only [Act.put, qsA, qsB, qsC, qqo, qqp]
          rfl
         refine pure_ (i := 1) (N := some 17) (v := ?_) (a' := ?_) #[true, true, false, false, false, false, false, false, false, false, false, false, false, false, false, false, false, false, false, false, false, false, false, false, false, false, false] rfl rfl (qqn HT_.out (by kernel_rfl)) (fun _ _ _ h => h) (Or.inl ⟨by rfl, ?_⟩) ?_ ?_
         rotate_left
         ·intro w'
          go_simp
          with_reducible rfl
         rotate_left
         ·simp only [Act.put, qsA, qsB, qsC, qqo, qqp]
          rfl
         refine pure_ (i := 2) (N := some 18) (v := ?_) (a' := ?_) #[true, true, true, false, false, false, false, false, false, false, false, false, false, false, false, false, false, false, false, false, false, false, false, false, false, false, false] rfl rfl (qqn HT_.out (by kernel_rfl)) (fun _ _ _ h => h) (Or.inl ⟨by rfl, ?_⟩) ?_ ?_
         rotate_left
         ·intro w'
          go_simp
          with_reducible rfl
         rotate_left
         ·simp only [Act.put, qsA, qsB, qsC, qqo, qqp]
          rfl
         refine pure_ (i := 6) (N := some 22) (v := ?_) (a' := ?_) #[true, true, true, false, false, false, true, false, false, false, false, false, false, false, false, false, false, false, false, false, false, false, false, false, false, false, false] rfl rfl (qqn HT_.out (by kernel_rfl)) (fun _ _ _ h => h) (Or.inl ⟨by rfl, ?_⟩) ?_ ?_
         rotate_left
         ·intro w'
          go_simp
          with_reducible rfl
         rotate_left
         ·simp only [Act.put, qsA, qsB, qsC, qqo, qqp]
          rfl
         refine pure_ (i := 7) (N := some 23) (v := ?_) (a' := ?_) #[true, true, true, false, false, false, true, true, false, false, false, false, false, false, false, false, false, false, false, false, false, false, false, false, false, false, false] rfl rfl (qqn HT_.out (by kernel_rfl)) (fun _ _ _ h => h) (Or.inl ⟨by rfl, ?_⟩) ?_ ?_
         rotate_left
         ·intro w'
          go_simp
          with_reducible rfl
         rotate_left
         ·simp only [Act.put, qsA, qsB, qsC, qqo, qqp]
          rfl
         refine pure_ (i := 11) (N := some 27) (v := ?_) (a' := ?_) #[true, true, true, false, false, false, true, true, false, false, false, true, false, false, false, false, false, false, false, false, false, false, false, false, false, false, false] rfl rfl (qqn HT_.out (by kernel_rfl)) (fun _ _ _ h => h) (Or.inl ⟨by rfl, ?_⟩) ?_ ?_
         rotate_left
         ·intro w'
          go_simp
          with_reducible rfl
         rotate_left
         ·simp only [Act.put, qsA, qsB, qsC, qqo, qqp]
          rfl
         refine pure_ (i := 12) (N := some 28) (v := ?_) (a' := ?_) #[true, true, true, false, false, false, true, true, false, false, false, true, true, false, false, false, false, false, false, false, false, false, false, false, false, false, false] rfl rfl (qqn HT_.out (by kernel_rfl)) (fun _ _ _ h => h) (Or.inl ⟨by rfl, ?_⟩) ?_ ?_
         rotate_left
         ·intro w'
          go_simp
          with_reducible rfl
         rotate_left
         ·simp only [Act.put, qsA, qsB, qsC, qqo, qqp]
          rfl
         refine pure_ (i := 15) (N := some 31) (v := ?_) (a' := ?_) #[true, true, true, false, false, false, true, true, false, false, false, true, true, false, false, true, false, false, false, false, false, false, false, false, false, false, false] rfl rfl (qqn HT_.out (by kernel_rfl)) (fun _ _ _ h => h) (Or.inl ⟨by rfl, ?_⟩) ?_ ?_
         rotate_left
         ·intro w'
          go_simp
          with_reducible rfl
         rotate_left
         ·simp only [Act.put, qsA, qsB, qsC, qqo, qqp]
          rfl
         refine pure_ (i := 16) (N := some 32) (v := ?_) (a' := ?_) #[true, true, true, false, false, false, true, true, false, false, false, true, true, false, false, true, true, false, false, false, false, false, false, false, false, false, false] rfl rfl (qqn HT_.out (by kernel_rfl)) (fun _ _ _ h => h) (Or.inl ⟨by rfl, ?_⟩) ?_ ?_
         rotate_left
         ·intro w'
          go_simp
          with_reducible rfl
         rotate_left
         ·simp only [Act.put, qsA, qsB, qsC, qqo, qqp]
          rfl
         refine pure_ (i := 19) (N := some 35) (v := ?_) (a' := ?_) #[true, true, true, false, false, false, true, true, false, false, false, true, true, false, false, true, true, false, false, true, false, false, false, false, false, false, false] rfl rfl (qqn HT_.out (by kernel_rfl)) (fun _ _ _ h => h) (Or.inl ⟨by rfl, ?_⟩) ?_ ?_
         rotate_left
         ·intro w'
          go_simp
          with_reducible rfl
         rotate_left
         ·simp only [Act.put, qsA, qsB, qsC, qqo, qqp]
          rfl
         refine pure_ (i := 20) (N := some 36) (v := ?_) (a' := ?_) #[true, true, true, false, false, false, true, true, false, false, false, true, true, false, false, true, true, false, false, true, true, false, false, false, false, false, false] rfl rfl (qqn HT_.out (by kernel_rfl)) (fun _ _ _ h => h) (Or.inl ⟨by rfl, ?_⟩) ?_ ?_
         rotate_left
         ·intro w'
          go_simp
          with_reducible rfl
         rotate_left
         ·simp only [Act.put, qsA, qsB, qsC, qqo, qqp]
          rfl
         refine take_ (i := 3) (N := some 19) (v := ?_) (a' := ?_) #[true, true, true, true, false, false, true, true, false, false, false, true, true, false, false, true, true, false, false, true, true, false, false, false, false, false, false] rfl rfl (take_ofW HT_.out HW_.out (by kernel_rfl)) (fun _ _ _ h => h) (Or.inl ⟨by rfl, ?_⟩) hHeld ?_ ?_
         rotate_left
         ·rintro w' ⟨s0, s1, s2, s3, s4⟩
          go_simp
          with_reducible rfl
         rotate_left
         ·simp only [Act.put, qsA, qsB, qsC, qqo, qqp]
          rfl
         refine pure_ (i := 4) (N := some 20) (v := ?_) (a' := ?_) #[true, true, true, true, true, false, true, true, false, false, false, true, true, false, false, true, true, false, false, true, true, false, false, false, false, false, false] rfl rfl (qqn HT_.out (by kernel_rfl)) (fun _ _ _ h => h) (Or.inl ⟨by rfl, ?_⟩) ?_ ?_
         rotate_left
         ·intro w'
          go_simp
          with_reducible rfl
         rotate_left
         ·simp only [Act.put, qsA, qsB, qsC, qqo, qqp]
          rfl
         refine pure_ (i := 5) (N := some 21) (v := ?_) (a' := ?_) #[true, true, true, true, true, true, true, true, false, false, false, true, true, false, false, true, true, false, false, true, true, false, false, false, false, false, false] rfl rfl (qqn HT_.out (by kernel_rfl)) (fun _ _ _ h => h) (Or.inl ⟨by rfl, ?_⟩) ?_ ?_
         rotate_left
         ·intro w'
          go_simp
          with_reducible rfl
         rotate_left
         ·simp only [Act.put, qsA, qsB, qsC, qqo, qqp]
          rfl
         refine take_ (i := 8) (N := some 24) (v := ?_) (a' := ?_) #[true, true, true, true, true, true, true, true, true, false, false, true, true, false, false, true, true, false, false, true, true, false, false, false, false, false, false] rfl rfl (take_ofW HT_.out HW_.out (by kernel_rfl)) (fun _ _ _ h => h) (Or.inl ⟨by rfl, ?_⟩) hHeld ?_ ?_
         rotate_left
         ·rintro w' ⟨s0, s1, s2, s3, s4⟩
          go_simp
          with_reducible rfl
         rotate_left
         ·simp only [Act.put, qsA, qsB, qsC, qqo, qqp]
          rfl
         refine pure_ (i := 9) (N := some 25) (v := ?_) (a' := ?_) #[true, true, true, true, true, true, true, true, true, true, false, true, true, false, false, true, true, false, false, true, true, false, false, false, false, false, false] rfl rfl (qqn HT_.out (by kernel_rfl)) (fun _ _ _ h => h) (Or.inl ⟨by rfl, ?_⟩) ?_ ?_
         rotate_left
         ·intro w'
          go_simp
          with_reducible rfl
         rotate_left
         ·simp only [Act.put, qsA, qsB, qsC, qqo, qqp]
          rfl
         refine pure_ (i := 10) (N := some 26) (v := ?_) (a' := ?_) #[true, true, true, true, true, true, true, true, true, true, true, true, true, false, false, true, true, false, false, true, true, false, false, false, false, false, false] rfl rfl (qqn HT_.out (by kernel_rfl)) (fun _ _ _ h => h) (Or.inl ⟨by rfl, ?_⟩) ?_ ?_
         rotate_left
         ·intro w'
          go_simp
          with_reducible rfl
         rotate_left
         ·simp only [Act.put, qsA, qsB, qsC, qqo, qqp]
          rfl
         refine take_ (i := 13) (N := some 29) (v := ?_) (a' := ?_) #[true, true, true, true, true, true, true, true, true, true, true, true, true, true, false, true, true, false, false, true, true, false, false, false, false, false, false] rfl rfl (take_ofW HT_.out HW_.out (by kernel_rfl)) (fun _ _ _ h => h) (Or.inl ⟨by rfl, ?_⟩) hHeld ?_ ?_
         rotate_left
         ·rintro w' ⟨s0, s1, s2, s3, s4⟩
          go_simp
          with_reducible rfl
         rotate_left
         ·simp only [Act.put, qsA, qsB, qsC, qqo, qqp]
          rfl
         refine pure_ (i := 14) (N := some 30) (v := ?_) (a' := ?_) #[true, true, true, true, true, true, true, true, true, true, true, true, true, true, true, true, true, false, false, true, true, false, false, false, false, false, false] rfl rfl (qqn HT_.out (by kernel_rfl)) (fun _ _ _ h => h) (Or.inl ⟨by rfl, ?_⟩) ?_ ?_
         rotate_left
         ·intro w'
          go_simp
          with_reducible rfl
         rotate_left
         ·simp only [Act.put, qsA, qsB, qsC, qqo, qqp]
          rfl
         refine take_ (i := 17) (N := some 33) (v := ?_) (a' := ?_) #[true, true, true, true, true, true, true, true, true, true, true, true, true, true, true, true, true, true, false, true, true, false, false, false, false, false, false] rfl rfl (take_ofW HT_.out HW_.out (by kernel_rfl)) (fun _ _ _ h => h) (Or.inl ⟨by rfl, ?_⟩) hHeld ?_ ?_
         rotate_left
         ·rintro w' ⟨s0, s1, s2, s3, s4⟩
          go_simp
          with_reducible rfl
         rotate_left
         ·simp only [Act.put, qsA, qsB, qsC, qqo, qqp]
          rfl
         refine pure_ (i := 18) (N := some 34) (v := ?_) (a' := ?_) #[true, true, true, true, true, true, true, true, true, true, true, true, true, true, true, true, true, true, true, true, true, false, false, false, false, false, false] rfl rfl (qqn HT_.out (by kernel_rfl)) (fun _ _ _ h => h) (Or.inl ⟨by rfl, ?_⟩) ?_ ?_
         rotate_left
         ·intro w'
          go_simp
          with_reducible rfl
         rotate_left
         ·simp only [Act.put, qsA, qsB, qsC, qqo, qqp]
          rfl
         refine take_ (i := 21) (N := some 37) (v := ?_) (a' := ?_) #[true, true, true, true, true, true, true, true, true, true, true, true, true, true, true, true, true, true, true, true, true, true, false, false, false, false, false] rfl rfl (take_ofW HT_.out HW_.out (by kernel_rfl)) (fun _ _ _ h => h) (Or.inl ⟨by rfl, ?_⟩) hHeld ?_ ?_
         rotate_left
         ·rintro w' ⟨s0, s1, s2, s3, s4⟩
          go_simp
          with_reducible rfl
         rotate_left
         ·simp only [Act.put, qsA, qsB, qsC, qqo, qqp]
          rfl
         refine pure_ (i := 22) (N := some 38) (v := ?_) (a' := ?_) #[true, true, true, true, true, true, true, true, true, true, true, true, true, true, true, true, true, true, true, true, true, true, true, false, false, false, false] rfl rfl (qqn HT_.out (by kernel_rfl)) (fun _ _ _ h => h) (Or.inl ⟨by rfl, ?_⟩) ?_ ?_
         rotate_left
         ·intro w'
          go_simp
          with_reducible rfl
         rotate_left
         ·simp only [Act.put, qsA, qsB, qsC, qqo, qqp]
          rfl
         refine pure_ (i := 23) (N := some 39) (v := ?_) (a' := ?_) #[true, true, true, true, true, true, true, true, true, true, true, true, true, true, true, true, true, true, true, true, true, true, true, true, false, false, false] rfl rfl (qqn HT_.out (by kernel_rfl)) (fun _ _ _ h => h) (Or.inl ⟨by rfl, ?_⟩) ?_ ?_
         rotate_left
         ·intro w'
          go_simp
          with_reducible rfl
         rotate_left
         ·simp only [Act.put, qsA, qsB, qsC, qqo, qqp]
          rfl
         refine pure_ (i := 24) (N := some 40) (v := ?_) (a' := ?_) #[true, true, true, true, true, true, true, true, true, true, true, true, true, true, true, true, true, true, true, true, true, true, true, true, true, false, false] rfl rfl (qqn HT_.out (by kernel_rfl)) (fun _ _ _ h => h) (Or.inl ⟨by rfl, ?_⟩) ?_ ?_
         rotate_left
         ·intro w'
          go_simp
          with_reducible rfl
         rotate_left
         ·simp only [Act.put, qsA, qsB, qsC, qqo, qqp]
          rfl
         refine one_ (i := 25) (N := some 6) #[true, true, true, true, true, true, true, true, true, true, true, true, true, true, true, true, true, true, true, true, true, true, true, true, true, true, false] rfl rfl (one_of HT_.out (by kernel_rfl)) (by decide) (fun K hK => ?_)
         refine box_step ?hg (N := 6) ?hd (cs := #[.int .i64 0, .int .i64 0, .int .i64 0, .int .i64 0, .int .i64 0, .int .i64 0]) (t := 27) ?hr ?_; (case hd => rfl); (case hg => rfl); (case hr => first | (go_simp; done) | (go_simp; rfl))
         intro Q6 hg w16 hbox hb
         have n0_ := bbl Q9 hb
         have n1_ := bst HB hb
         have n2_ := Aside0.mk (hbox)
         have n3_ := szl HB hg
         have n4_ := szl HB hg
         have n5_ := nel Q9 hg
         have n6_ := ner Q9 hg
         clear Q9
         clear HB
         have Q9 := n0_
         have HB := n1_
         have Qa := n2_
         have Q0 := n3_
         have GE282 := n4_
         have Q7 := n5_
         have Q8 := n6_
         clear n0_ n1_ n2_ n3_ n4_ n5_ n6_
         clear hb hbox hg
         refine hK.out _ _ ⟨((HB.out.cell (World.block_lt_of_cell? w _ Q1)).trans Q1), ((HB.out.cell (World.block_lt_of_cell? w _ Q2)).trans Q2), ((HB.out.cell (World.block_lt_of_cell? w _ Q3)).trans Q3), ((HB.out.cell (World.block_lt_of_cell? w _ Q4)).trans Q4), ((HB.out.cell (World.block_lt_of_cell? w _ Q5)).trans Q5)⟩ (fun hHeld => ?_)
         clear hK K
         refine norm_ (a' := ?_) ?_ ?_
         rotate_left
         ·show Act.put _ (some 6) _ = _
          simp only [Act.put, qsA, qsB, qsC, qqo, qqp]
          rfl
         refine one_ (i := 26) (N := none) #[true, true, true, true, true, true, true, true, true, true, true, true, true, true, true, true, true, true, true, true, true, true, true, true, true, true, true] rfl rfl (one_of HT_.out (by kernel_rfl)) (by decide) (fun K hK => ?_)
         have hs17 : w16.cell? ⟨Q6, 0, none⟩ = some (.int .i64 0) := (qql Qa.out 0).trans rfl
         have hfs17 := qqe Qa.out 0
         have hns17_0 := Q7.out
         have hms17_0 := Q8.out
         have hs18 : w16.cell? ⟨Q6, 1, none⟩ = some (.int .i64 0) := (qql Qa.out 1).trans rfl
         have hfs18 := qqe Qa.out 1
         have hns18_0 := Q7.out
         have hms18_0 := Q8.out
         have hs19 : w16.cell? ⟨Q6, 2, none⟩ = some (.int .i64 0) := (qql Qa.out 2).trans rfl
         have hfs19 := qqe Qa.out 2
         have hns19_0 := Q7.out
         have hms19_0 := Q8.out
         have hs20 : w16.cell? ⟨Q6, 3, none⟩ = some (.int .i64 0) := (qql Qa.out 3).trans rfl
         have hfs20 := qqe Qa.out 3
         have hns20_0 := Q7.out
         have hms20_0 := Q8.out
         have hs21 : w16.cell? ⟨Q6, 4, none⟩ = some (.int .i64 0) := (qql Qa.out 4).trans rfl
         have hfs21 := qqe Qa.out 4
         have hns21_0 := Q7.out
         have hms21_0 := Q8.out
         have hs22 : w16.cell? ⟨Q6, 5, none⟩ = some (.int .i64 0) := (qql Qa.out 5).trans rfl
         have hfs22 := qqe Qa.out 5
         have hns22_0 := Q7.out
         have hms22_0 := Q8.out
         refine skip_ (w1 := ?_) (by rfl) rfl ?_ ?_
         rotate_left
         ·go_simp
          rfl
         refine hK.out _ _ ⟨((qqm (p := ⟨Q6, _, none⟩) (by first | exact nbA Q1 Q0.out | exact nbB Q1 Q0.out | exact nbC Q1 Q0.out | exact nbD Q1 Q0.out) _).trans (((qqm (p := ⟨Q6, _, none⟩) (by first | exact nbA Q1 Q0.out | exact nbB Q1 Q0.out | exact nbC Q1 Q0.out | exact nbD Q1 Q0.out) _).trans (((qqm (p := ⟨Q6, _, none⟩) (by first | exact nbA Q1 Q0.out | exact nbB Q1 Q0.out | exact nbC Q1 Q0.out | exact nbD Q1 Q0.out) _).trans (((qqm (p := ⟨Q6, _, none⟩) (by first | exact nbA Q1 Q0.out | exact nbB Q1 Q0.out | exact nbC Q1 Q0.out | exact nbD Q1 Q0.out) _).trans (((qqm (p := ⟨Q6, _, none⟩) (by first | exact nbA Q1 Q0.out | exact nbB Q1 Q0.out | exact nbC Q1 Q0.out | exact nbD Q1 Q0.out) _).trans (((qqm (p := ⟨Q6, _, none⟩) (by first | exact nbA Q1 Q0.out | exact nbB Q1 Q0.out | exact nbC Q1 Q0.out | exact nbD Q1 Q0.out) _).trans (hHeld.1)))))))))))), ((qqm (p := ⟨Q6, _, none⟩) (by first | exact nbA Q2 Q0.out | exact nbB Q2 Q0.out | exact nbC Q2 Q0.out | exact nbD Q2 Q0.out) _).trans (((qqm (p := ⟨Q6, _, none⟩) (by first | exact nbA Q2 Q0.out | exact nbB Q2 Q0.out | exact nbC Q2 Q0.out | exact nbD Q2 Q0.out) _).trans (((qqm (p := ⟨Q6, _, none⟩) (by first | exact nbA Q2 Q0.out | exact nbB Q2 Q0.out | exact nbC Q2 Q0.out | exact nbD Q2 Q0.out) _).trans (((qqm (p := ⟨Q6, _, none⟩) (by first | exact nbA Q2 Q0.out | exact nbB Q2 Q0.out | exact nbC Q2 Q0.out | exact nbD Q2 Q0.out) _).trans (((qqm (p := ⟨Q6, _, none⟩) (by first | exact nbA Q2 Q0.out | exact nbB Q2 Q0.out | exact nbC Q2 Q0.out | exact nbD Q2 Q0.out) _).trans (((qqm (p := ⟨Q6, _, none⟩) (by first | exact nbA Q2 Q0.out | exact nbB Q2 Q0.out | exact nbC Q2 Q0.out | exact nbD Q2 Q0.out) _).trans (hHeld.2.1)))))))))))), ((qqm (p := ⟨Q6, _, none⟩) (by first | exact nbA Q3 Q0.out | exact nbB Q3 Q0.out | exact nbC Q3 Q0.out | exact nbD Q3 Q0.out) _).trans (((qqm (p := ⟨Q6, _, none⟩) (by first | exact nbA Q3 Q0.out | exact nbB Q3 Q0.out | exact nbC Q3 Q0.out | exact nbD Q3 Q0.out) _).trans (((qqm (p := ⟨Q6, _, none⟩) (by first | exact nbA Q3 Q0.out | exact nbB Q3 Q0.out | exact nbC Q3 Q0.out | exact nbD Q3 Q0.out) _).trans (((qqm (p := ⟨Q6, _, none⟩) (by first | exact nbA Q3 Q0.out | exact nbB Q3 Q0.out | exact nbC Q3 Q0.out | exact nbD Q3 Q0.out) _).trans (((qqm (p := ⟨Q6, _, none⟩) (by first | exact nbA Q3 Q0.out | exact nbB Q3 Q0.out | exact nbC Q3 Q0.out | exact nbD Q3 Q0.out) _).trans (((qqm (p := ⟨Q6, _, none⟩) (by first | exact nbA Q3 Q0.out | exact nbB Q3 Q0.out | exact nbC Q3 Q0.out | exact nbD Q3 Q0.out) _).trans (hHeld.2.2.1)))))))))))), ((qqm (p := ⟨Q6, _, none⟩) (by first | exact nbA Q4 Q0.out | exact nbB Q4 Q0.out | exact nbC Q4 Q0.out | exact nbD Q4 Q0.out) _).trans (((qqm (p := ⟨Q6, _, none⟩) (by first | exact nbA Q4 Q0.out | exact nbB Q4 Q0.out | exact nbC Q4 Q0.out | exact nbD Q4 Q0.out) _).trans (((qqm (p := ⟨Q6, _, none⟩) (by first | exact nbA Q4 Q0.out | exact nbB Q4 Q0.out | exact nbC Q4 Q0.out | exact nbD Q4 Q0.out) _).trans (((qqm (p := ⟨Q6, _, none⟩) (by first | exact nbA Q4 Q0.out | exact nbB Q4 Q0.out | exact nbC Q4 Q0.out | exact nbD Q4 Q0.out) _).trans (((qqm (p := ⟨Q6, _, none⟩) (by first | exact nbA Q4 Q0.out | exact nbB Q4 Q0.out | exact nbC Q4 Q0.out | exact nbD Q4 Q0.out) _).trans (((qqm (p := ⟨Q6, _, none⟩) (by first | exact nbA Q4 Q0.out | exact nbB Q4 Q0.out | exact nbC Q4 Q0.out | exact nbD Q4 Q0.out) _).trans (hHeld.2.2.2.1)))))))))))), ((qqm (p := ⟨Q6, _, none⟩) (by first | exact nbA Q5 Q0.out | exact nbB Q5 Q0.out | exact nbC Q5 Q0.out | exact nbD Q5 Q0.out) _).trans (((qqm (p := ⟨Q6, _, none⟩) (by first | exact nbA Q5 Q0.out | exact nbB Q5 Q0.out | exact nbC Q5 Q0.out | exact nbD Q5 Q0.out) _).trans (((qqm (p := ⟨Q6, _, none⟩) (by first | exact nbA Q5 Q0.out | exact nbB Q5 Q0.out | exact nbC Q5 Q0.out | exact nbD Q5 Q0.out) _).trans (((qqm (p := ⟨Q6, _, none⟩) (by first | exact nbA Q5 Q0.out | exact nbB Q5 Q0.out | exact nbC Q5 Q0.out | exact nbD Q5 Q0.out) _).trans (((qqm (p := ⟨Q6, _, none⟩) (by first | exact nbA Q5 Q0.out | exact nbB Q5 Q0.out | exact nbC Q5 Q0.out | exact nbD Q5 Q0.out) _).trans (((qqm (p := ⟨Q6, _, none⟩) (by first | exact nbA Q5 Q0.out | exact nbB Q5 Q0.out | exact nbC Q5 Q0.out | exact nbD Q5 Q0.out) _).trans (hHeld.2.2.2.2))))))))))))⟩ (fun hHeld => ?_)
         clear hK K
         refine done_ (done_of HT_.out (by kernel_rfl)) ?_
         have hnb23 := Q8.out
         have hnc23 := Q7.out
         obtain ⟨_, _, _, _, _, _⟩ := bcells6 Qa.out
         obtain ⟨_, _, _, _, _, _⟩ := bfrozen6 Qa.out
         try go_wp2_with (first | (go_at_call 32; (with_reducible refine (rule_May.calls Qi (wrap64 (rd l0 4)) (wrap64 ((wrap64 (rd l0 5)) - 1)) (wrap64 (rd l0 6)) (wrap64 (rd l0 7)) (wrap64 (rd l0 8)) true _ A12.out).mono ?_); rintro e w25 ⟨rfl, hb⟩; replace Q9 := Aside0.mk (blk_below (g := Qh) (o := .cells #[.int .i64 0, .int .i64 0, .int .i64 0, .int .i64 0, .int .i64 0, .int .i64 0] 27 (0, 0)) (by (with_reducible repeat (first | refine qqg ?_ _ | refine qqk ?_ | refine qqh ?_ _)); refine qqq ?_ Q7.out _; (with_reducible repeat (first | refine qqg ?_ _ | refine qqk ?_ | refine qqh ?_ _)); refine qqq ?_ Q7.out _; (with_reducible repeat (first | refine qqg ?_ _ | refine qqk ?_ | refine qqh ?_ _)); refine qqq ?_ Q7.out _; (with_reducible repeat (first | refine qqg ?_ _ | refine qqk ?_ | refine qqh ?_ _)); refine qqq ?_ Q7.out _; (with_reducible repeat (first | refine qqg ?_ _ | refine qqk ?_ | refine qqh ?_ _)); refine qqq ?_ Q7.out _; (with_reducible repeat (first | refine qqg ?_ _ | refine qqk ?_ | refine qqh ?_ _)); refine qqq ?_ Q7.out _; (with_reducible repeat (first | refine qqg ?_ _ | refine qqk ?_ | refine qqh ?_ _)); exact Q9.out) hb); replace Qa := Aside0.mk (blk_below (g := Q6) (o := .cells #[.int .i64 Qi, .int .i64 (wrap64 (rd l0 4)), .int .i64 (wrap64 ((wrap64 (rd l0 5)) - 1)), .int .i64 (wrap64 (rd l0 6)), .int .i64 (wrap64 (rd l0 7)), .int .i64 (wrap64 (rd l0 8))] 27 (0, 0)) (by exact bput6 Qa.out) hb); replace HB := bst HB hb; (try clear hb); obtain ⟨_, _, _, _, _, _⟩ := bcells6 Qa.out; obtain ⟨_, _, _, _, _, _⟩ := bfrozen6 Qa.out; obtain ⟨_, _, _, _, _, _⟩ := bcells6 Q9.out; obtain ⟨_, _, _, _, _, _⟩ := bfrozen6 Q9.out))
         refine bodyPost_ret (results_ct rfl _ _ Qh 27 #[.int .i64 Qi, .int .i64 (wrap64 (rd l0 4)), .int .i64 (wrap64 ((wrap64 (rd l0 5)) - 1)), .int .i64 (wrap64 (rd l0 6)), .int .i64 (wrap64 (rd l0 7)), .int .i64 (wrap64 (rd l0 8))] (0, 0) _ rfl (by exact bput6 Q9.out) Tryd.underlying27 rfl (by kernel_rfl)) rfl ?_
         exact ⟨by first | rfl | (simp [qqj, qqi] <;> rfl) | (simp [*, qqj, qqi] <;> rfl), by repeat (first | (with_reducible first | exact HB.out | apply qqc | apply qqa | apply qqb | refine qqd ?_ GE274.out | refine qqd ?_ GE282.out) | exact HB.out)⟩
        ·replace c13 := Bool.eq_false_iff.mpr c13
         subst c13
         have H1 : (some (0, 0, 0, 0, 0, 0, 2)) = some (r1, r2, r3, r4, r5, r6, r7) := by rw [if_neg (show ¬ (false = true) by decide)] at H; exact H
         clear H
         have H := H1
         clear H1
         simp only [Option.some.injEq, Prod.mk.injEq] at H
         obtain ⟨rfl, rfl, rfl, rfl, rfl, rfl, rfl⟩ := H
         go_enter Tryd.func39, Tryd.ntmps39
         try go_wp2_with (first | ((with_reducible refine qqs (N := 2) rfl ?_); refine box_event ?hg (N := 2) ?hd (cs := #[.int .i64 0, .int .i64 0, .int .i64 0, .int .i64 0, .int .i64 0, .int .i64 0]) (t := 27) ?hr ?_; (case hd => rfl); (case hg => rfl); (case hr => first | (go_simp; done) | (go_simp; rfl)); intro Qh hg w28 hbox hb; have n0_ := bst HB hb; have n1_ := Aside0.mk (hbox); have n2_ := szl HB hg; have n3_ := szl HB hg; clear HB; have HB := n0_; have Q9 := n1_; have GW274 := n2_; have GE274 := n3_; clear n0_ n1_ n2_ n3_; clear hb hbox hg) | ((with_reducible refine qqr (f := 45) rfl ?_); refine goesL_ (some 13) rfl rfl Tryd.func45 (by kernel_rfl) rfl #[.slice A0 l0.length c0, .int .i64 4] rfl (by (try simp only [List.map_toArray, List.map_cons, List.map_nil]); first | done | rfl | (simp only [List.length_drop, List.length_take]; rfl)) ?_; (with_reducible refine (octets_Get.calls k _ _ l0 4 Qi t276 _ ?side1 ?side2 A5.out).mono ?_); (case side1 => repeat (first | exact (Kd.C_below HR0.out HB.out) | (with_reducible refine Kd.C_alloc ?_ _) | (with_reducible refine Kd.C_drewN ?_ _) | (with_reducible refine Kd.C_drew ?_))); (case side2 => exact HC0.out); rintro e w' ⟨rfl, ⟨nd, rfl⟩⟩; refine ⟨_, rfl, ?_⟩; (try (rw [drewN_self w28]; generalize hq_ : World.drewN w28 _ = w28; have n0_ : Aside0 (w28.heap[Qh]? = some (.cells #[.int .i64 0, .int .i64 0, .int .i64 0, .int .i64 0, .int .i64 0, .int .i64 0] 27 (0, 0))) := ⟨by rw [← hq_]; exact (by (with_reducible repeat (first | refine qqg ?_ _ | refine qqk ?_ | refine qqh ?_ _)); exact Q9.out)⟩; have n1_ : Aside0 (Below w.heap.size w w28) := ⟨by rw [← hq_]; exact (by repeat (first | (with_reducible first | exact HB.out | apply qqc | apply qqa | apply qqb | refine qqd ?_ GE274.out) | exact HB.out))⟩; clear Q9 HB hq_; have Q9 := n0_; have HB := n1_; clear n0_ n1_))))
         replace Q9 := Aside0.mk (qqk Q9.out)
         replace HB := Aside0.mk (qqb HB.out)
         have p277 : 0 ≤ (4 : Int) := (by omega)
         have q277 : 4 < (l0.length : Int) := of_decide_eq_true (by first | (with_reducible assumption) | assumption)
         obtain ⟨Qb, e277, Qc⟩ := Kd.at_int HR0.out 4 p277 q277
         have Q1 := Qc
         (try rw [show ((4 : Int)).toNat = 4 from rfl] at Q1)
         (try rw [show 4 * 1 = 4 from rfl] at Q1)
         (try simp only [Nat.reduceMul, Nat.reduceEqDiff, Go.Addr.add, ↓reduceIte] at Q1)
         cases e277
         (try simp only [show (4 : Int).toNat = 4 from rfl, Nat.reduceMul, Nat.reduceEqDiff, Go.Addr.add, ↓reduceIte] at Qc)
         have qi277 : (4 < l0.length) = True := eq_true (by omega)
         (try rw [show ((4 : Int)).toNat = 4 from rfl] at Qc)
         replace Qc := (HB.out.cell (World.block_lt_of_cell? w _ Qc)).trans Qc
         replace p277 := eq_true p277
         replace q277 := eq_true q277
         have p278 : 0 ≤ (5 : Int) := (by omega)
         have q278 : 5 < (l0.length : Int) := of_decide_eq_true (by first | (with_reducible assumption) | assumption)
         obtain ⟨Qk, e278, Qd⟩ := Kd.at_int HR0.out 5 p278 q278
         have Q2 := Qd
         (try rw [show ((5 : Int)).toNat = 5 from rfl] at Q2)
         (try rw [show 5 * 1 = 5 from rfl] at Q2)
         (try simp only [Nat.reduceMul, Nat.reduceEqDiff, Go.Addr.add, ↓reduceIte] at Q2)
         obtain rfl : Qb = Qk := (by injection e278)
         (try simp only [show (5 : Int).toNat = 5 from rfl, Nat.reduceMul, Nat.reduceEqDiff, Go.Addr.add, ↓reduceIte] at Qd)
         have qi278 : (5 < l0.length) = True := eq_true (by omega)
         (try rw [show ((5 : Int)).toNat = 5 from rfl] at Qd)
         replace Qd := (HB.out.cell (World.block_lt_of_cell? w _ Qd)).trans Qd
         replace p278 := eq_true p278
         replace q278 := eq_true q278
         have p279 : 0 ≤ (6 : Int) := (by omega)
         have q279 : 6 < (l0.length : Int) := of_decide_eq_true (by first | (with_reducible assumption) | assumption)
         obtain ⟨Qm, e279, Qe⟩ := Kd.at_int HR0.out 6 p279 q279
         have Q3 := Qe
         (try rw [show ((6 : Int)).toNat = 6 from rfl] at Q3)
         (try rw [show 6 * 1 = 6 from rfl] at Q3)
         (try simp only [Nat.reduceMul, Nat.reduceEqDiff, Go.Addr.add, ↓reduceIte] at Q3)
         obtain rfl : Qb = Qm := (by injection e279)
         (try simp only [show (6 : Int).toNat = 6 from rfl, Nat.reduceMul, Nat.reduceEqDiff, Go.Addr.add, ↓reduceIte] at Qe)
         have qi279 : (6 < l0.length) = True := eq_true (by omega)
         (try rw [show ((6 : Int)).toNat = 6 from rfl] at Qe)
         replace Qe := (HB.out.cell (World.block_lt_of_cell? w _ Qe)).trans Qe
         replace p279 := eq_true p279
         replace q279 := eq_true q279
         have p280 : 0 ≤ (7 : Int) := (by omega)
         have q280 : 7 < (l0.length : Int) := of_decide_eq_true (by first | (with_reducible assumption) | assumption)
         obtain ⟨Qn, e280, Qf⟩ := Kd.at_int HR0.out 7 p280 q280
         have Q4 := Qf
         (try rw [show ((7 : Int)).toNat = 7 from rfl] at Q4)
         (try rw [show 7 * 1 = 7 from rfl] at Q4)
         (try simp only [Nat.reduceMul, Nat.reduceEqDiff, Go.Addr.add, ↓reduceIte] at Q4)
         obtain rfl : Qb = Qn := (by injection e280)
         (try simp only [show (7 : Int).toNat = 7 from rfl, Nat.reduceMul, Nat.reduceEqDiff, Go.Addr.add, ↓reduceIte] at Qf)
         have qi280 : (7 < l0.length) = True := eq_true (by omega)
         (try rw [show ((7 : Int)).toNat = 7 from rfl] at Qf)
         replace Qf := (HB.out.cell (World.block_lt_of_cell? w _ Qf)).trans Qf
         replace p280 := eq_true p280
         replace q280 := eq_true q280
         have p281 : 0 ≤ (8 : Int) := (by omega)
         have q281 : 8 < (l0.length : Int) := of_decide_eq_true (by first | (with_reducible assumption) | assumption)
         obtain ⟨Qo, e281, Qg⟩ := Kd.at_int HR0.out 8 p281 q281
         have Q5 := Qg
         (try rw [show ((8 : Int)).toNat = 8 from rfl] at Q5)
         (try rw [show 8 * 1 = 8 from rfl] at Q5)
         (try simp only [Nat.reduceMul, Nat.reduceEqDiff, Go.Addr.add, ↓reduceIte] at Q5)
         obtain rfl : Qb = Qo := (by injection e281)
         (try simp only [show (8 : Int).toNat = 8 from rfl, Nat.reduceMul, Nat.reduceEqDiff, Go.Addr.add, ↓reduceIte] at Qg)
         have qi281 : (8 < l0.length) = True := eq_true (by omega)
         (try rw [show ((8 : Int)).toNat = 8 from rfl] at Qg)
         replace Qg := (HB.out.cell (World.block_lt_of_cell? w _ Qg)).trans Qg
         replace p281 := eq_true p281
         replace q281 := eq_true q281
         refine start_ (n := 27) (S := fun w' => w'.cell? ⟨Qb.block, Qb.off + 4, none⟩ = some (.int .u8 (rd l0 4)) ∧ w'.cell? ⟨Qb.block, Qb.off + 5, none⟩ = some (.int .u8 (rd l0 5)) ∧ w'.cell? ⟨Qb.block, Qb.off + 6, none⟩ = some (.int .u8 (rd l0 6)) ∧ w'.cell? ⟨Qb.block, Qb.off + 7, none⟩ = some (.int .u8 (rd l0 7)) ∧ w'.cell? ⟨Qb.block, Qb.off + 8, none⟩ = some (.int .u8 (rd l0 8))) (ds := []) #[false, false, false, false, false, false, false, false, false, false, false, false, false, false, false, false, false, false, false, false, false, false, false, false, false, false, false] (by kernel_rfl) rfl rfl ⟨((HB.out.cell (World.block_lt_of_cell? w _ Q1)).trans Q1), ((HB.out.cell (World.block_lt_of_cell? w _ Q2)).trans Q2), ((HB.out.cell (World.block_lt_of_cell? w _ Q3)).trans Q3), ((HB.out.cell (World.block_lt_of_cell? w _ Q4)).trans Q4), ((HB.out.cell (World.block_lt_of_cell? w _ Q5)).trans Q5)⟩ (fun hHeld => ?_); refine with_tabW rule_Get.tab4 rule_Get.bits4 (fun HT_ HW_ => ?_)
         generalize w28.drew = w29 at Q9 HB Qc Qd Qe Qf Qg hHeld ⊢
         refine pure_ (i := 0) (N := some 16) (v := ?_) (a' := ?_) #[true, false, false, false, false, false, false, false, false, false, false, false, false, false, false, false, false, false, false, false, false, false, false, false, false, false, false] rfl rfl (qqn HT_.out (by kernel_rfl)) (fun _ _ _ h => h) (Or.inl ⟨by rfl, ?_⟩) ?_ ?_
         rotate_left
         ·intro w'
          go_simp
          with_reducible rfl
         rotate_left
         ·simp only [Act.put, qsA, qsB, qsC, qqo, qqp]
          rfl
         refine pure_ (i := 1) (N := some 17) (v := ?_) (a' := ?_) #[true, true, false, false, false, false, false, false, false, false, false, false, false, false, false, false, false, false, false, false, false, false, false, false, false, false, false] rfl rfl (qqn HT_.out (by kernel_rfl)) (fun _ _ _ h => h) (Or.inl ⟨by rfl, ?_⟩) ?_ ?_
         rotate_left
         ·intro w'
          go_simp
          with_reducible rfl
         rotate_left
         ·simp only [Act.put, qsA, qsB, qsC, qqo, qqp]
          rfl
         refine pure_ (i := 2) (N := some 18) (v := ?_) (a' := ?_) #[true, true, true, false, false, false, false, false, false, false, false, false, false, false, false, false, false, false, false, false, false, false, false, false, false, false, false] rfl rfl (qqn HT_.out (by kernel_rfl)) (fun _ _ _ h => h) (Or.inl ⟨by rfl, ?_⟩) ?_ ?_
         rotate_left
         ·intro w'
          go_simp
          with_reducible rfl
         rotate_left
         ·simp only [Act.put, qsA, qsB, qsC, qqo, qqp]
          rfl
         refine pure_ (i := 6) (N := some 22) (v := ?_) (a' := ?_) #[true, true, true, false, false, false, true, false, false, false, false, false, false, false, false, false, false, false, false, false, false, false, false, false, false, false, false] rfl rfl (qqn HT_.out (by kernel_rfl)) (fun _ _ _ h => h) (Or.inl ⟨by rfl, ?_⟩) ?_ ?_
         rotate_left
         ·intro w'
          go_simp
          with_reducible rfl
         rotate_left
         ·simp only [Act.put, qsA, qsB, qsC, qqo, qqp]
          rfl
         refine pure_ (i := 7) (N := some 23) (v := ?_) (a' := ?_) #[true, true, true, false, false, false, true, true, false, false, false, false, false, false, false, false, false, false, false, false, false, false, false, false, false, false, false] rfl rfl (qqn HT_.out (by kernel_rfl)) (fun _ _ _ h => h) (Or.inl ⟨by rfl, ?_⟩) ?_ ?_
         rotate_left
         ·intro w'
          go_simp
          with_reducible rfl
         rotate_left
         ·simp only [Act.put, qsA, qsB, qsC, qqo, qqp]
          rfl
         refine pure_ (i := 11) (N := some 27) (v := ?_) (a' := ?_) #[true, true, true, false, false, false, true, true, false, false, false, true, false, false, false, false, false, false, false, false, false, false, false, false, false, false, false] rfl rfl (qqn HT_.out (by kernel_rfl)) (fun _ _ _ h => h) (Or.inl ⟨by rfl, ?_⟩) ?_ ?_
         rotate_left
         ·intro w'
          go_simp
          with_reducible rfl
         rotate_left
         ·simp only [Act.put, qsA, qsB, qsC, qqo, qqp]
          rfl
         refine pure_ (i := 12) (N := some 28) (v := ?_) (a' := ?_) #[true, true, true, false, false, false, true, true, false, false, false, true, true, false, false, false, false, false, false, false, false, false, false, false, false, false, false] rfl rfl (qqn HT_.out (by kernel_rfl)) (fun _ _ _ h => h) (Or.inl ⟨by rfl, ?_⟩) ?_ ?_
         rotate_left
         ·intro w'
          go_simp
          with_reducible rfl
         rotate_left
         ·simp only [Act.put, qsA, qsB, qsC, qqo, qqp]
          rfl
         refine pure_ (i := 15) (N := some 31) (v := ?_) (a' := ?_) #[true, true, true, false, false, false, true, true, false, false, false, true, true, false, false, true, false, false, false, false, false, false, false, false, false, false, false] rfl rfl (qqn HT_.out (by kernel_rfl)) (fun _ _ _ h => h) (Or.inl ⟨by rfl, ?_⟩) ?_ ?_
         rotate_left
         ·intro w'
          go_simp
          with_reducible rfl
         rotate_left
         ·simp only [Act.put, qsA, qsB, qsC, qqo, qqp]
          rfl
         refine pure_ (i := 16) (N := some 32) (v := ?_) (a' := ?_) #[true, true, true, false, false, false, true, true, false, false, false, true, true, false, false, true, true, false, false, false, false, false, false, false, false, false, false] rfl rfl (qqn HT_.out (by kernel_rfl)) (fun _ _ _ h => h) (Or.inl ⟨by rfl, ?_⟩) ?_ ?_
         rotate_left
         ·intro w'
          go_simp
          with_reducible rfl
         rotate_left
         ·simp only [Act.put, qsA, qsB, qsC, qqo, qqp]
          rfl
         refine pure_ (i := 19) (N := some 35) (v := ?_) (a' := ?_) #[true, true, true, false, false, false, true, true, false, false, false, true, true, false, false, true, true, false, false, true, false, false, false, false, false, false, false] rfl rfl (qqn HT_.out (by kernel_rfl)) (fun _ _ _ h => h) (Or.inl ⟨by rfl, ?_⟩) ?_ ?_
         rotate_left
         ·intro w'
          go_simp
          with_reducible rfl
         rotate_left
         ·simp only [Act.put, qsA, qsB, qsC, qqo, qqp]
          rfl
         refine pure_ (i := 20) (N := some 36) (v := ?_) (a' := ?_) #[true, true, true, false, false, false, true, true, false, false, false, true, true, false, false, true, true, false, false, true, true, false, false, false, false, false, false] rfl rfl (qqn HT_.out (by kernel_rfl)) (fun _ _ _ h => h) (Or.inl ⟨by rfl, ?_⟩) ?_ ?_
         rotate_left
         ·intro w'
          go_simp
          with_reducible rfl
         rotate_left
         ·simp only [Act.put, qsA, qsB, qsC, qqo, qqp]
          rfl
         refine take_ (i := 3) (N := some 19) (v := ?_) (a' := ?_) #[true, true, true, true, false, false, true, true, false, false, false, true, true, false, false, true, true, false, false, true, true, false, false, false, false, false, false] rfl rfl (take_ofW HT_.out HW_.out (by kernel_rfl)) (fun _ _ _ h => h) (Or.inl ⟨by rfl, ?_⟩) hHeld ?_ ?_
         rotate_left
         ·rintro w' ⟨s0, s1, s2, s3, s4⟩
          go_simp
          with_reducible rfl
         rotate_left
         ·simp only [Act.put, qsA, qsB, qsC, qqo, qqp]
          rfl
         refine pure_ (i := 4) (N := some 20) (v := ?_) (a' := ?_) #[true, true, true, true, true, false, true, true, false, false, false, true, true, false, false, true, true, false, false, true, true, false, false, false, false, false, false] rfl rfl (qqn HT_.out (by kernel_rfl)) (fun _ _ _ h => h) (Or.inl ⟨by rfl, ?_⟩) ?_ ?_
         rotate_left
         ·intro w'
          go_simp
          with_reducible rfl
         rotate_left
         ·simp only [Act.put, qsA, qsB, qsC, qqo, qqp]
          rfl
         refine pure_ (i := 5) (N := some 21) (v := ?_) (a' := ?_) #[true, true, true, true, true, true, true, true, false, false, false, true, true, false, false, true, true, false, false, true, true, false, false, false, false, false, false] rfl rfl (qqn HT_.out (by kernel_rfl)) (fun _ _ _ h => h) (Or.inl ⟨by rfl, ?_⟩) ?_ ?_
         rotate_left
         ·intro w'
          go_simp
          with_reducible rfl
         rotate_left
         ·simp only [Act.put, qsA, qsB, qsC, qqo, qqp]
          rfl
         refine take_ (i := 8) (N := some 24) (v := ?_) (a' := ?_) #[true, true, true, true, true, true, true, true, true, false, false, true, true, false, false, true, true, false, false, true, true, false, false, false, false, false, false] rfl rfl (take_ofW HT_.out HW_.out (by kernel_rfl)) (fun _ _ _ h => h) (Or.inl ⟨by rfl, ?_⟩) hHeld ?_ ?_
         rotate_left
         ·rintro w' ⟨s0, s1, s2, s3, s4⟩
          go_simp
          with_reducible rfl
         rotate_left
         ·simp only [Act.put, qsA, qsB, qsC, qqo, qqp]
          rfl
         refine pure_ (i := 9) (N := some 25) (v := ?_) (a' := ?_) #[true, true, true, true, true, true, true, true, true, true, false, true, true, false, false, true, true, false, false, true, true, false, false, false, false, false, false] rfl rfl (qqn HT_.out (by kernel_rfl)) (fun _ _ _ h => h) (Or.inl ⟨by rfl, ?_⟩) ?_ ?_
         rotate_left
         ·intro w'
          go_simp
          with_reducible rfl
         rotate_left
         ·simp only [Act.put, qsA, qsB, qsC, qqo, qqp]
          rfl
         refine pure_ (i := 10) (N := some 26) (v := ?_) (a' := ?_) #[true, true, true, true, true, true, true, true, true, true, true, true, true, false, false, true, true, false, false, true, true, false, false, false, false, false, false] rfl rfl (qqn HT_.out (by kernel_rfl)) (fun _ _ _ h => h) (Or.inl ⟨by rfl, ?_⟩) ?_ ?_
         rotate_left
         ·intro w'
          go_simp
          with_reducible rfl
         rotate_left
         ·simp only [Act.put, qsA, qsB, qsC, qqo, qqp]
          rfl
         refine take_ (i := 13) (N := some 29) (v := ?_) (a' := ?_) #[true, true, true, true, true, true, true, true, true, true, true, true, true, true, false, true, true, false, false, true, true, false, false, false, false, false, false] rfl rfl (take_ofW HT_.out HW_.out (by kernel_rfl)) (fun _ _ _ h => h) (Or.inl ⟨by rfl, ?_⟩) hHeld ?_ ?_
         rotate_left
         ·rintro w' ⟨s0, s1, s2, s3, s4⟩
          go_simp
          with_reducible rfl
         rotate_left
         ·simp only [Act.put, qsA, qsB, qsC, qqo, qqp]
          rfl
         refine pure_ (i := 14) (N := some 30) (v := ?_) (a' := ?_) #[true, true, true, true, true, true, true, true, true, true, true, true, true, true, true, true, true, false, false, true, true, false, false, false, false, false, false] rfl rfl (qqn HT_.out (by kernel_rfl)) (fun _ _ _ h => h) (Or.inl ⟨by rfl, ?_⟩) ?_ ?_
         rotate_left
         ·intro w'
          go_simp
          with_reducible rfl
         rotate_left
         ·simp only [Act.put, qsA, qsB, qsC, qqo, qqp]
          rfl
         refine take_ (i := 17) (N := some 33) (v := ?_) (a' := ?_) #[true, true, true, true, true, true, true, true, true, true, true, true, true, true, true, true, true, true, false, true, true, false, false, false, false, false, false] rfl rfl (take_ofW HT_.out HW_.out (by kernel_rfl)) (fun _ _ _ h => h) (Or.inl ⟨by rfl, ?_⟩) hHeld ?_ ?_
         rotate_left
         ·rintro w' ⟨s0, s1, s2, s3, s4⟩
          go_simp
          with_reducible rfl
         rotate_left
         ·simp only [Act.put, qsA, qsB, qsC, qqo, qqp]
          rfl
         refine pure_ (i := 18) (N := some 34) (v := ?_) (a' := ?_) #[true, true, true, true, true, true, true, true, true, true, true, true, true, true, true, true, true, true, true, true, true, false, false, false, false, false, false] rfl rfl (qqn HT_.out (by kernel_rfl)) (fun _ _ _ h => h) (Or.inl ⟨by rfl, ?_⟩) ?_ ?_
         rotate_left
         ·intro w'
          go_simp
          with_reducible rfl
         rotate_left
         ·simp only [Act.put, qsA, qsB, qsC, qqo, qqp]
          rfl
         refine take_ (i := 21) (N := some 37) (v := ?_) (a' := ?_) #[true, true, true, true, true, true, true, true, true, true, true, true, true, true, true, true, true, true, true, true, true, true, false, false, false, false, false] rfl rfl (take_ofW HT_.out HW_.out (by kernel_rfl)) (fun _ _ _ h => h) (Or.inl ⟨by rfl, ?_⟩) hHeld ?_ ?_
         rotate_left
         ·rintro w' ⟨s0, s1, s2, s3, s4⟩
          go_simp
          with_reducible rfl
         rotate_left
         ·simp only [Act.put, qsA, qsB, qsC, qqo, qqp]
          rfl
         refine pure_ (i := 22) (N := some 38) (v := ?_) (a' := ?_) #[true, true, true, true, true, true, true, true, true, true, true, true, true, true, true, true, true, true, true, true, true, true, true, false, false, false, false] rfl rfl (qqn HT_.out (by kernel_rfl)) (fun _ _ _ h => h) (Or.inl ⟨by rfl, ?_⟩) ?_ ?_
         rotate_left
         ·intro w'
          go_simp
          with_reducible rfl
         rotate_left
         ·simp only [Act.put, qsA, qsB, qsC, qqo, qqp]
          rfl
         refine pure_ (i := 23) (N := some 39) (v := ?_) (a' := ?_) #[true, true, true, true, true, true, true, true, true, true, true, true, true, true, true, true, true, true, true, true, true, true, true, true, false, false, false] rfl rfl (qqn HT_.out (by kernel_rfl)) (fun _ _ _ h => h) (Or.inl ⟨by rfl, ?_⟩) ?_ ?_
         rotate_left
         ·intro w'
          go_simp
          with_reducible rfl
         rotate_left
         ·simp only [Act.put, qsA, qsB, qsC, qqo, qqp]
          rfl
         refine pure_ (i := 24) (N := some 40) (v := ?_) (a' := ?_) #[true, true, true, true, true, true, true, true, true, true, true, true, true, true, true, true, true, true, true, true, true, true, true, true, true, false, false] rfl rfl (qqn HT_.out (by kernel_rfl)) (fun _ _ _ h => h) (Or.inl ⟨by rfl, ?_⟩) ?_ ?_
         rotate_left
         ·intro w'
          go_simp
          with_reducible rfl
         rotate_left
         ·simp only [Act.put, qsA, qsB, qsC, qqo, qqp]
          rfl
         refine one_ (i := 25) (N := some 6) #[true, true, true, true, true, true, true, true, true, true, true, true, true, true, true, true, true, true, true, true, true, true, true, true, true, true, false] rfl rfl (one_of HT_.out (by kernel_rfl)) (by decide) (fun K hK => ?_)
         refine box_step ?hg (N := 6) ?hd (cs := #[.int .i64 0, .int .i64 0, .int .i64 0, .int .i64 0, .int .i64 0, .int .i64 0]) (t := 27) ?hr ?_; (case hd => rfl); (case hg => rfl); (case hr => first | (go_simp; done) | (go_simp; rfl))
         intro Q6 hg w30 hbox hb
         have n0_ := bbl Q9 hb
         have n1_ := bst HB hb
         have n2_ := Aside0.mk (hbox)
         have n3_ := szl HB hg
         have n4_ := szl HB hg
         have n5_ := nel Q9 hg
         have n6_ := ner Q9 hg
         clear Q9
         clear HB
         have Q9 := n0_
         have HB := n1_
         have Qa := n2_
         have Q0 := n3_
         have GE282 := n4_
         have Q7 := n5_
         have Q8 := n6_
         clear n0_ n1_ n2_ n3_ n4_ n5_ n6_
         clear hb hbox hg
         refine hK.out _ _ ⟨((HB.out.cell (World.block_lt_of_cell? w _ Q1)).trans Q1), ((HB.out.cell (World.block_lt_of_cell? w _ Q2)).trans Q2), ((HB.out.cell (World.block_lt_of_cell? w _ Q3)).trans Q3), ((HB.out.cell (World.block_lt_of_cell? w _ Q4)).trans Q4), ((HB.out.cell (World.block_lt_of_cell? w _ Q5)).trans Q5)⟩ (fun hHeld => ?_)
         clear hK K
         refine norm_ (a' := ?_) ?_ ?_
         rotate_left
         ·show Act.put _ (some 6) _ = _
          simp only [Act.put, qsA, qsB, qsC, qqo, qqp]
          rfl
         refine one_ (i := 26) (N := none) #[true, true, true, true, true, true, true, true, true, true, true, true, true, true, true, true, true, true, true, true, true, true, true, true, true, true, true] rfl rfl (one_of HT_.out (by kernel_rfl)) (by decide) (fun K hK => ?_)
         have hs31 : w30.cell? ⟨Q6, 0, none⟩ = some (.int .i64 0) := (qql Qa.out 0).trans rfl
         have hfs31 := qqe Qa.out 0
         have hns31_0 := Q7.out
         have hms31_0 := Q8.out
         have hs32 : w30.cell? ⟨Q6, 1, none⟩ = some (.int .i64 0) := (qql Qa.out 1).trans rfl
         have hfs32 := qqe Qa.out 1
         have hns32_0 := Q7.out
         have hms32_0 := Q8.out
         have hs33 : w30.cell? ⟨Q6, 2, none⟩ = some (.int .i64 0) := (qql Qa.out 2).trans rfl
         have hfs33 := qqe Qa.out 2
         have hns33_0 := Q7.out
         have hms33_0 := Q8.out
         have hs34 : w30.cell? ⟨Q6, 3, none⟩ = some (.int .i64 0) := (qql Qa.out 3).trans rfl
         have hfs34 := qqe Qa.out 3
         have hns34_0 := Q7.out
         have hms34_0 := Q8.out
         have hs35 : w30.cell? ⟨Q6, 4, none⟩ = some (.int .i64 0) := (qql Qa.out 4).trans rfl
         have hfs35 := qqe Qa.out 4
         have hns35_0 := Q7.out
         have hms35_0 := Q8.out
         have hs36 : w30.cell? ⟨Q6, 5, none⟩ = some (.int .i64 0) := (qql Qa.out 5).trans rfl
         have hfs36 := qqe Qa.out 5
         have hns36_0 := Q7.out
         have hms36_0 := Q8.out
         refine skip_ (w1 := ?_) (by rfl) rfl ?_ ?_
         rotate_left
         ·go_simp
          rfl
         refine hK.out _ _ ⟨((qqm (p := ⟨Q6, _, none⟩) (by first | exact nbA Q1 Q0.out | exact nbB Q1 Q0.out | exact nbC Q1 Q0.out | exact nbD Q1 Q0.out) _).trans (((qqm (p := ⟨Q6, _, none⟩) (by first | exact nbA Q1 Q0.out | exact nbB Q1 Q0.out | exact nbC Q1 Q0.out | exact nbD Q1 Q0.out) _).trans (((qqm (p := ⟨Q6, _, none⟩) (by first | exact nbA Q1 Q0.out | exact nbB Q1 Q0.out | exact nbC Q1 Q0.out | exact nbD Q1 Q0.out) _).trans (((qqm (p := ⟨Q6, _, none⟩) (by first | exact nbA Q1 Q0.out | exact nbB Q1 Q0.out | exact nbC Q1 Q0.out | exact nbD Q1 Q0.out) _).trans (((qqm (p := ⟨Q6, _, none⟩) (by first | exact nbA Q1 Q0.out | exact nbB Q1 Q0.out | exact nbC Q1 Q0.out | exact nbD Q1 Q0.out) _).trans (((qqm (p := ⟨Q6, _, none⟩) (by first | exact nbA Q1 Q0.out | exact nbB Q1 Q0.out | exact nbC Q1 Q0.out | exact nbD Q1 Q0.out) _).trans (hHeld.1)))))))))))), ((qqm (p := ⟨Q6, _, none⟩) (by first | exact nbA Q2 Q0.out | exact nbB Q2 Q0.out | exact nbC Q2 Q0.out | exact nbD Q2 Q0.out) _).trans (((qqm (p := ⟨Q6, _, none⟩) (by first | exact nbA Q2 Q0.out | exact nbB Q2 Q0.out | exact nbC Q2 Q0.out | exact nbD Q2 Q0.out) _).trans (((qqm (p := ⟨Q6, _, none⟩) (by first | exact nbA Q2 Q0.out | exact nbB Q2 Q0.out | exact nbC Q2 Q0.out | exact nbD Q2 Q0.out) _).trans (((qqm (p := ⟨Q6, _, none⟩) (by first | exact nbA Q2 Q0.out | exact nbB Q2 Q0.out | exact nbC Q2 Q0.out | exact nbD Q2 Q0.out) _).trans (((qqm (p := ⟨Q6, _, none⟩) (by first | exact nbA Q2 Q0.out | exact nbB Q2 Q0.out | exact nbC Q2 Q0.out | exact nbD Q2 Q0.out) _).trans (((qqm (p := ⟨Q6, _, none⟩) (by first | exact nbA Q2 Q0.out | exact nbB Q2 Q0.out | exact nbC Q2 Q0.out | exact nbD Q2 Q0.out) _).trans (hHeld.2.1)))))))))))), ((qqm (p := ⟨Q6, _, none⟩) (by first | exact nbA Q3 Q0.out | exact nbB Q3 Q0.out | exact nbC Q3 Q0.out | exact nbD Q3 Q0.out) _).trans (((qqm (p := ⟨Q6, _, none⟩) (by first | exact nbA Q3 Q0.out | exact nbB Q3 Q0.out | exact nbC Q3 Q0.out | exact nbD Q3 Q0.out) _).trans (((qqm (p := ⟨Q6, _, none⟩) (by first | exact nbA Q3 Q0.out | exact nbB Q3 Q0.out | exact nbC Q3 Q0.out | exact nbD Q3 Q0.out) _).trans (((qqm (p := ⟨Q6, _, none⟩) (by first | exact nbA Q3 Q0.out | exact nbB Q3 Q0.out | exact nbC Q3 Q0.out | exact nbD Q3 Q0.out) _).trans (((qqm (p := ⟨Q6, _, none⟩) (by first | exact nbA Q3 Q0.out | exact nbB Q3 Q0.out | exact nbC Q3 Q0.out | exact nbD Q3 Q0.out) _).trans (((qqm (p := ⟨Q6, _, none⟩) (by first | exact nbA Q3 Q0.out | exact nbB Q3 Q0.out | exact nbC Q3 Q0.out | exact nbD Q3 Q0.out) _).trans (hHeld.2.2.1)))))))))))), ((qqm (p := ⟨Q6, _, none⟩) (by first | exact nbA Q4 Q0.out | exact nbB Q4 Q0.out | exact nbC Q4 Q0.out | exact nbD Q4 Q0.out) _).trans (((qqm (p := ⟨Q6, _, none⟩) (by first | exact nbA Q4 Q0.out | exact nbB Q4 Q0.out | exact nbC Q4 Q0.out | exact nbD Q4 Q0.out) _).trans (((qqm (p := ⟨Q6, _, none⟩) (by first | exact nbA Q4 Q0.out | exact nbB Q4 Q0.out | exact nbC Q4 Q0.out | exact nbD Q4 Q0.out) _).trans (((qqm (p := ⟨Q6, _, none⟩) (by first | exact nbA Q4 Q0.out | exact nbB Q4 Q0.out | exact nbC Q4 Q0.out | exact nbD Q4 Q0.out) _).trans (((qqm (p := ⟨Q6, _, none⟩) (by first | exact nbA Q4 Q0.out | exact nbB Q4 Q0.out | exact nbC Q4 Q0.out | exact nbD Q4 Q0.out) _).trans (((qqm (p := ⟨Q6, _, none⟩) (by first | exact nbA Q4 Q0.out | exact nbB Q4 Q0.out | exact nbC Q4 Q0.out | exact nbD Q4 Q0.out) _).trans (hHeld.2.2.2.1)))))))))))), ((qqm (p := ⟨Q6, _, none⟩) (by first | exact nbA Q5 Q0.out | exact nbB Q5 Q0.out | exact nbC Q5 Q0.out | exact nbD Q5 Q0.out) _).trans (((qqm (p := ⟨Q6, _, none⟩) (by first | exact nbA Q5 Q0.out | exact nbB Q5 Q0.out | exact nbC Q5 Q0.out | exact nbD Q5 Q0.out) _).trans (((qqm (p := ⟨Q6, _, none⟩) (by first | exact nbA Q5 Q0.out | exact nbB Q5 Q0.out | exact nbC Q5 Q0.out | exact nbD Q5 Q0.out) _).trans (((qqm (p := ⟨Q6, _, none⟩) (by first | exact nbA Q5 Q0.out | exact nbB Q5 Q0.out | exact nbC Q5 Q0.out | exact nbD Q5 Q0.out) _).trans (((qqm (p := ⟨Q6, _, none⟩) (by first | exact nbA Q5 Q0.out | exact nbB Q5 Q0.out | exact nbC Q5 Q0.out | exact nbD Q5 Q0.out) _).trans (((qqm (p := ⟨Q6, _, none⟩) (by first | exact nbA Q5 Q0.out | exact nbB Q5 Q0.out | exact nbC Q5 Q0.out | exact nbD Q5 Q0.out) _).trans (hHeld.2.2.2.2))))))))))))⟩ (fun hHeld => ?_)
         clear hK K
         refine done_ (done_of HT_.out (by kernel_rfl)) ?_
         have hnb37 := Q8.out
         have hnc37 := Q7.out
         obtain ⟨_, _, _, _, _, _⟩ := bcells6 Qa.out
         obtain ⟨_, _, _, _, _, _⟩ := bfrozen6 Qa.out
         try go_wp2_with (first | (go_at_call 32; (with_reducible refine (rule_May.calls Qi (wrap64 (rd l0 4)) (wrap64 ((wrap64 (rd l0 5)) - 1)) (wrap64 (rd l0 6)) (wrap64 (rd l0 7)) (wrap64 (rd l0 8)) false _ A12.out).mono ?_); rintro e w39 ⟨rfl, hb⟩; replace Q9 := Aside0.mk (blk_below (g := Qh) (o := .cells #[.int .i64 0, .int .i64 0, .int .i64 0, .int .i64 0, .int .i64 0, .int .i64 0] 27 (0, 0)) (by (with_reducible repeat (first | refine qqg ?_ _ | refine qqk ?_ | refine qqh ?_ _)); refine qqq ?_ Q7.out _; (with_reducible repeat (first | refine qqg ?_ _ | refine qqk ?_ | refine qqh ?_ _)); refine qqq ?_ Q7.out _; (with_reducible repeat (first | refine qqg ?_ _ | refine qqk ?_ | refine qqh ?_ _)); refine qqq ?_ Q7.out _; (with_reducible repeat (first | refine qqg ?_ _ | refine qqk ?_ | refine qqh ?_ _)); refine qqq ?_ Q7.out _; (with_reducible repeat (first | refine qqg ?_ _ | refine qqk ?_ | refine qqh ?_ _)); refine qqq ?_ Q7.out _; (with_reducible repeat (first | refine qqg ?_ _ | refine qqk ?_ | refine qqh ?_ _)); refine qqq ?_ Q7.out _; (with_reducible repeat (first | refine qqg ?_ _ | refine qqk ?_ | refine qqh ?_ _)); exact Q9.out) hb); replace Qa := Aside0.mk (blk_below (g := Q6) (o := .cells #[.int .i64 Qi, .int .i64 (wrap64 (rd l0 4)), .int .i64 (wrap64 ((wrap64 (rd l0 5)) - 1)), .int .i64 (wrap64 (rd l0 6)), .int .i64 (wrap64 (rd l0 7)), .int .i64 (wrap64 (rd l0 8))] 27 (0, 0)) (by exact bput6 Qa.out) hb); replace HB := bst HB hb; (try clear hb); obtain ⟨_, _, _, _, _, _⟩ := bcells6 Q9.out; obtain ⟨_, _, _, _, _, _⟩ := bfrozen6 Q9.out))
         refine bodyPost_ret (results_ct rfl _ _ Qh 27 #[.int .i64 0, .int .i64 0, .int .i64 0, .int .i64 0, .int .i64 0, .int .i64 0] (0, 0) _ rfl (by exact bput6 Q9.out) Tryd.underlying27 rfl (by kernel_rfl)) rfl ?_
         exact ⟨by first | rfl | (simp [qqj, qqi] <;> rfl) | (simp [*, qqj, qqi] <;> rfl), by repeat (first | (with_reducible first | exact HB.out | apply qqc | apply qqa | apply qqb | refine qqd ?_ GE274.out | refine qqd ?_ GE282.out) | exact HB.out)⟩
       ·rw [if_neg c11] at H
        have c11b0 : (t276 == 0) = false := beq_eq_false_iff_ne.mpr c11
        have c11b1 : (t276 != 0) = true := bne_iff_ne.mpr c11
        simp only [Option.some.injEq, Prod.mk.injEq] at H
        obtain ⟨rfl, rfl, rfl, rfl, rfl, rfl, rfl⟩ := H
        go_enter Tryd.func39, Tryd.ntmps39
        try go_wp2_with (first | ((with_reducible refine qqs (N := 2) rfl ?_); refine box_event ?hg (N := 2) ?hd (cs := #[.int .i64 0, .int .i64 0, .int .i64 0, .int .i64 0, .int .i64 0, .int .i64 0]) (t := 27) ?hr ?_; (case hd => rfl); (case hg => rfl); (case hr => first | (go_simp; done) | (go_simp; rfl)); intro Qh hg w41 hbox hb; have n0_ := bst HB hb; have n1_ := Aside0.mk (hbox); have n2_ := szl HB hg; have n3_ := szl HB hg; clear HB; have HB := n0_; have Q9 := n1_; have GW274 := n2_; have GE274 := n3_; clear n0_ n1_ n2_ n3_; clear hb hbox hg) | ((with_reducible refine qqr (f := 45) rfl ?_); refine goesL_ (some 13) rfl rfl Tryd.func45 (by kernel_rfl) rfl #[.slice A0 l0.length c0, .int .i64 4] rfl (by (try simp only [List.map_toArray, List.map_cons, List.map_nil]); first | done | rfl | (simp only [List.length_drop, List.length_take]; rfl)) ?_; (with_reducible refine (octets_Get.calls k _ _ l0 4 Qi t276 _ ?side1 ?side2 A5.out).mono ?_); (case side1 => repeat (first | exact (Kd.C_below HR0.out HB.out) | (with_reducible refine Kd.C_alloc ?_ _) | (with_reducible refine Kd.C_drewN ?_ _) | (with_reducible refine Kd.C_drew ?_))); (case side2 => exact HC0.out); rintro e w' ⟨rfl, ⟨nd, rfl⟩⟩; refine ⟨_, rfl, ?_⟩; (try (rw [drewN_self w41]; generalize hq_ : World.drewN w41 _ = w41; have n0_ : Aside0 (w41.heap[Qh]? = some (.cells #[.int .i64 0, .int .i64 0, .int .i64 0, .int .i64 0, .int .i64 0, .int .i64 0] 27 (0, 0))) := ⟨by rw [← hq_]; exact (by (with_reducible repeat (first | refine qqg ?_ _ | refine qqk ?_ | refine qqh ?_ _)); exact Q9.out)⟩; have n1_ : Aside0 (Below w.heap.size w w41) := ⟨by rw [← hq_]; exact (by repeat (first | (with_reducible first | exact HB.out | apply qqc | apply qqa | apply qqb | refine qqd ?_ GE274.out) | exact HB.out))⟩; clear Q9 HB hq_; have Q9 := n0_; have HB := n1_; clear n0_ n1_))))
        replace Q9 := Aside0.mk (qqk Q9.out)
        replace HB := Aside0.mk (qqb HB.out)
        have p277 : 0 ≤ (4 : Int) := (by omega)
        have q277 : 4 < (l0.length : Int) := of_decide_eq_true (by first | (with_reducible assumption) | assumption)
        obtain ⟨Qb, e277, Qc⟩ := Kd.at_int HR0.out 4 p277 q277
        have Q1 := Qc
        (try rw [show ((4 : Int)).toNat = 4 from rfl] at Q1)
        (try rw [show 4 * 1 = 4 from rfl] at Q1)
        (try simp only [Nat.reduceMul, Nat.reduceEqDiff, Go.Addr.add, ↓reduceIte] at Q1)
        cases e277
        (try simp only [show (4 : Int).toNat = 4 from rfl, Nat.reduceMul, Nat.reduceEqDiff, Go.Addr.add, ↓reduceIte] at Qc)
        have qi277 : (4 < l0.length) = True := eq_true (by omega)
        (try rw [show ((4 : Int)).toNat = 4 from rfl] at Qc)
        replace Qc := (HB.out.cell (World.block_lt_of_cell? w _ Qc)).trans Qc
        replace p277 := eq_true p277
        replace q277 := eq_true q277
        have p278 : 0 ≤ (5 : Int) := (by omega)
        have q278 : 5 < (l0.length : Int) := of_decide_eq_true (by first | (with_reducible assumption) | assumption)
        obtain ⟨Qk, e278, Qd⟩ := Kd.at_int HR0.out 5 p278 q278
        have Q2 := Qd
        (try rw [show ((5 : Int)).toNat = 5 from rfl] at Q2)
        (try rw [show 5 * 1 = 5 from rfl] at Q2)
        (try simp only [Nat.reduceMul, Nat.reduceEqDiff, Go.Addr.add, ↓reduceIte] at Q2)
        obtain rfl : Qb = Qk := (by injection e278)
        (try simp only [show (5 : Int).toNat = 5 from rfl, Nat.reduceMul, Nat.reduceEqDiff, Go.Addr.add, ↓reduceIte] at Qd)
        have qi278 : (5 < l0.length) = True := eq_true (by omega)
        (try rw [show ((5 : Int)).toNat = 5 from rfl] at Qd)
        replace Qd := (HB.out.cell (World.block_lt_of_cell? w _ Qd)).trans Qd
        replace p278 := eq_true p278
        replace q278 := eq_true q278
        have p279 : 0 ≤ (6 : Int) := (by omega)
        have q279 : 6 < (l0.length : Int) := of_decide_eq_true (by first | (with_reducible assumption) | assumption)
        obtain ⟨Qm, e279, Qe⟩ := Kd.at_int HR0.out 6 p279 q279
        have Q3 := Qe
        (try rw [show ((6 : Int)).toNat = 6 from rfl] at Q3)
        (try rw [show 6 * 1 = 6 from rfl] at Q3)
        (try simp only [Nat.reduceMul, Nat.reduceEqDiff, Go.Addr.add, ↓reduceIte] at Q3)
        obtain rfl : Qb = Qm := (by injection e279)
        (try simp only [show (6 : Int).toNat = 6 from rfl, Nat.reduceMul, Nat.reduceEqDiff, Go.Addr.add, ↓reduceIte] at Qe)
        have qi279 : (6 < l0.length) = True := eq_true (by omega)
        (try rw [show ((6 : Int)).toNat = 6 from rfl] at Qe)
        replace Qe := (HB.out.cell (World.block_lt_of_cell? w _ Qe)).trans Qe
        replace p279 := eq_true p279
        replace q279 := eq_true q279
        have p280 : 0 ≤ (7 : Int) := (by omega)
        have q280 : 7 < (l0.length : Int) := of_decide_eq_true (by first | (with_reducible assumption) | assumption)
        obtain ⟨Qn, e280, Qf⟩ := Kd.at_int HR0.out 7 p280 q280
        have Q4 := Qf
        (try rw [show ((7 : Int)).toNat = 7 from rfl] at Q4)
        (try rw [show 7 * 1 = 7 from rfl] at Q4)
        (try simp only [Nat.reduceMul, Nat.reduceEqDiff, Go.Addr.add, ↓reduceIte] at Q4)
        obtain rfl : Qb = Qn := (by injection e280)
        (try simp only [show (7 : Int).toNat = 7 from rfl, Nat.reduceMul, Nat.reduceEqDiff, Go.Addr.add, ↓reduceIte] at Qf)
        have qi280 : (7 < l0.length) = True := eq_true (by omega)
        (try rw [show ((7 : Int)).toNat = 7 from rfl] at Qf)
        replace Qf := (HB.out.cell (World.block_lt_of_cell? w _ Qf)).trans Qf
        replace p280 := eq_true p280
        replace q280 := eq_true q280
        have p281 : 0 ≤ (8 : Int) := (by omega)
        have q281 : 8 < (l0.length : Int) := of_decide_eq_true (by first | (with_reducible assumption) | assumption)
        obtain ⟨Qo, e281, Qg⟩ := Kd.at_int HR0.out 8 p281 q281
        have Q5 := Qg
        (try rw [show ((8 : Int)).toNat = 8 from rfl] at Q5)
        (try rw [show 8 * 1 = 8 from rfl] at Q5)
        (try simp only [Nat.reduceMul, Nat.reduceEqDiff, Go.Addr.add, ↓reduceIte] at Q5)
        obtain rfl : Qb = Qo := (by injection e281)
        (try simp only [show (8 : Int).toNat = 8 from rfl, Nat.reduceMul, Nat.reduceEqDiff, Go.Addr.add, ↓reduceIte] at Qg)
        have qi281 : (8 < l0.length) = True := eq_true (by omega)
        (try rw [show ((8 : Int)).toNat = 8 from rfl] at Qg)
        replace Qg := (HB.out.cell (World.block_lt_of_cell? w _ Qg)).trans Qg
        replace p281 := eq_true p281
        replace q281 := eq_true q281
        refine start_ (n := 27) (S := fun w' => w'.cell? ⟨Qb.block, Qb.off + 4, none⟩ = some (.int .u8 (rd l0 4)) ∧ w'.cell? ⟨Qb.block, Qb.off + 5, none⟩ = some (.int .u8 (rd l0 5)) ∧ w'.cell? ⟨Qb.block, Qb.off + 6, none⟩ = some (.int .u8 (rd l0 6)) ∧ w'.cell? ⟨Qb.block, Qb.off + 7, none⟩ = some (.int .u8 (rd l0 7)) ∧ w'.cell? ⟨Qb.block, Qb.off + 8, none⟩ = some (.int .u8 (rd l0 8))) (ds := []) #[false, false, false, false, false, false, false, false, false, false, false, false, false, false, false, false, false, false, false, false, false, false, false, false, false, false, false] (by kernel_rfl) rfl rfl ⟨((HB.out.cell (World.block_lt_of_cell? w _ Q1)).trans Q1), ((HB.out.cell (World.block_lt_of_cell? w _ Q2)).trans Q2), ((HB.out.cell (World.block_lt_of_cell? w _ Q3)).trans Q3), ((HB.out.cell (World.block_lt_of_cell? w _ Q4)).trans Q4), ((HB.out.cell (World.block_lt_of_cell? w _ Q5)).trans Q5)⟩ (fun hHeld => ?_); refine with_tabW rule_Get.tab4 rule_Get.bits4 (fun HT_ HW_ => ?_)
        generalize w41.drew = w42 at Q9 HB Qc Qd Qe Qf Qg hHeld ⊢
        refine pure_ (i := 0) (N := some 16) (v := ?_) (a' := ?_) #[true, false, false, false, false, false, false, false, false, false, false, false, false, false, false, false, false, false, false, false, false, false, false, false, false, false, false] rfl rfl (qqn HT_.out (by kernel_rfl)) (fun _ _ _ h => h) (Or.inl ⟨by rfl, ?_⟩) ?_ ?_
        rotate_left
        ·intro w'
         go_simp
         with_reducible rfl
        rotate_left
        ·simp only [Act.put, qsA, qsB, qsC, qqo, qqp]
         rfl
        refine pure_ (i := 1) (N := some 17) (v := ?_) (a' := ?_) #[true, true, false, false, false, false, false, false, false, false, false, false, false, false, false, false, false, false, false, false, false, false, false, false, false, false, false] rfl rfl (qqn HT_.out (by kernel_rfl)) (fun _ _ _ h => h) (Or.inl ⟨by rfl, ?_⟩) ?_ ?_
        rotate_left
        ·intro w'
         go_simp
         with_reducible rfl
        rotate_left
        ·simp only [Act.put, qsA, qsB, qsC, qqo, qqp]
         rfl
        refine pure_ (i := 2) (N := some 18) (v := ?_) (a' := ?_) #[true, true, true, false, false, false, false, false, false, false, false, false, false, false, false, false, false, false, false, false, false, false, false, false, false, false, false] rfl rfl (qqn HT_.out (by kernel_rfl)) (fun _ _ _ h => h) (Or.inl ⟨by rfl, ?_⟩) ?_ ?_
        rotate_left
        ·intro w'
         go_simp
         with_reducible rfl
        rotate_left
        ·simp only [Act.put, qsA, qsB, qsC, qqo, qqp]
         rfl
        refine pure_ (i := 6) (N := some 22) (v := ?_) (a' := ?_) #[true, true, true, false, false, false, true, false, false, false, false, false, false, false, false, false, false, false, false, false, false, false, false, false, false, false, false] rfl rfl (qqn HT_.out (by kernel_rfl)) (fun _ _ _ h => h) (Or.inl ⟨by rfl, ?_⟩) ?_ ?_
        rotate_left
        ·intro w'
         go_simp
         with_reducible rfl
        rotate_left
        ·simp only [Act.put, qsA, qsB, qsC, qqo, qqp]
         rfl
        refine pure_ (i := 7) (N := some 23) (v := ?_) (a' := ?_) #[true, true, true, false, false, false, true, true, false, false, false, false, false, false, false, false, false, false, false, false, false, false, false, false, false, false, false] rfl rfl (qqn HT_.out (by kernel_rfl)) (fun _ _ _ h => h) (Or.inl ⟨by rfl, ?_⟩) ?_ ?_
        rotate_left
        ·intro w'
         go_simp
         with_reducible rfl
        rotate_left
        ·simp only [Act.put, qsA, qsB, qsC, qqo, qqp]
         rfl
        refine pure_ (i := 11) (N := some 27) (v := ?_) (a' := ?_) #[true, true, true, false, false, false, true, true, false, false, false, true, false, false, false, false, false, false, false, false, false, false, false, false, false, false, false] rfl rfl (qqn HT_.out (by kernel_rfl)) (fun _ _ _ h => h) (Or.inl ⟨by rfl, ?_⟩) ?_ ?_
        rotate_left
        ·intro w'
         go_simp
         with_reducible rfl
        rotate_left
        ·simp only [Act.put, qsA, qsB, qsC, qqo, qqp]
         rfl
        refine pure_ (i := 12) (N := some 28) (v := ?_) (a' := ?_) #[true, true, true, false, false, false, true, true, false, false, false, true, true, false, false, false, false, false, false, false, false, false, false, false, false, false, false] rfl rfl (qqn HT_.out (by kernel_rfl)) (fun _ _ _ h => h) (Or.inl ⟨by rfl, ?_⟩) ?_ ?_
        rotate_left
        ·intro w'
         go_simp
         with_reducible rfl
        rotate_left
        ·simp only [Act.put, qsA, qsB, qsC, qqo, qqp]
         rfl
        refine pure_ (i := 15) (N := some 31) (v := ?_) (a' := ?_) #[true, true, true, false, false, false, true, true, false, false, false, true, true, false, false, true, false, false, false, false, false, false, false, false, false, false, false] rfl rfl (qqn HT_.out (by kernel_rfl)) (fun _ _ _ h => h) (Or.inl ⟨by rfl, ?_⟩) ?_ ?_
        rotate_left
        ·intro w'
         go_simp
         with_reducible rfl
        rotate_left
        ·simp only [Act.put, qsA, qsB, qsC, qqo, qqp]
         rfl
        refine pure_ (i := 16) (N := some 32) (v := ?_) (a' := ?_) #[true, true, true, false, false, false, true, true, false, false, false, true, true, false, false, true, true, false, false, false, false, false, false, false, false, false, false] rfl rfl (qqn HT_.out (by kernel_rfl)) (fun _ _ _ h => h) (Or.inl ⟨by rfl, ?_⟩) ?_ ?_
        rotate_left
        ·intro w'
         go_simp
         with_reducible rfl
        rotate_left
        ·simp only [Act.put, qsA, qsB, qsC, qqo, qqp]
         rfl
        refine pure_ (i := 19) (N := some 35) (v := ?_) (a' := ?_) #[true, true, true, false, false, false, true, true, false, false, false, true, true, false, false, true, true, false, false, true, false, false, false, false, false, false, false] rfl rfl (qqn HT_.out (by kernel_rfl)) (fun _ _ _ h => h) (Or.inl ⟨by rfl, ?_⟩) ?_ ?_
        rotate_left
        ·intro w'
         go_simp
         with_reducible rfl
        rotate_left
        ·simp only [Act.put, qsA, qsB, qsC, qqo, qqp]
         rfl
        refine pure_ (i := 20) (N := some 36) (v := ?_) (a' := ?_) #[true, true, true, false, false, false, true, true, false, false, false, true, true, false, false, true, true, false, false, true, true, false, false, false, false, false, false] rfl rfl (qqn HT_.out (by kernel_rfl)) (fun _ _ _ h => h) (Or.inl ⟨by rfl, ?_⟩) ?_ ?_
        rotate_left
        ·intro w'
         go_simp
         with_reducible rfl
        rotate_left
        ·simp only [Act.put, qsA, qsB, qsC, qqo, qqp]
         rfl
        refine take_ (i := 3) (N := some 19) (v := ?_) (a' := ?_) #[true, true, true, true, false, false, true, true, false, false, false, true, true, false, false, true, true, false, false, true, true, false, false, false, false, false, false] rfl rfl (take_ofW HT_.out HW_.out (by kernel_rfl)) (fun _ _ _ h => h) (Or.inl ⟨by rfl, ?_⟩) hHeld ?_ ?_
        rotate_left
        ·rintro w' ⟨s0, s1, s2, s3, s4⟩
         go_simp
         with_reducible rfl
        rotate_left
        ·simp only [Act.put, qsA, qsB, qsC, qqo, qqp]
         rfl
        refine pure_ (i := 4) (N := some 20) (v := ?_) (a' := ?_) #[true, true, true, true, true, false, true, true, false, false, false, true, true, false, false, true, true, false, false, true, true, false, false, false, false, false, false] rfl rfl (qqn HT_.out (by kernel_rfl)) (fun _ _ _ h => h) (Or.inl ⟨by rfl, ?_⟩) ?_ ?_
        rotate_left
        ·intro w'
         go_simp
         with_reducible rfl
        rotate_left
        ·simp only [Act.put, qsA, qsB, qsC, qqo, qqp]
         rfl
        refine pure_ (i := 5) (N := some 21) (v := ?_) (a' := ?_) #[true, true, true, true, true, true, true, true, false, false, false, true, true, false, false, true, true, false, false, true, true, false, false, false, false, false, false] rfl rfl (qqn HT_.out (by kernel_rfl)) (fun _ _ _ h => h) (Or.inl ⟨by rfl, ?_⟩) ?_ ?_
        rotate_left
        ·intro w'
         go_simp
         with_reducible rfl
        rotate_left
        ·simp only [Act.put, qsA, qsB, qsC, qqo, qqp]
         rfl
        refine take_ (i := 8) (N := some 24) (v := ?_) (a' := ?_) #[true, true, true, true, true, true, true, true, true, false, false, true, true, false, false, true, true, false, false, true, true, false, false, false, false, false, false] rfl rfl (take_ofW HT_.out HW_.out (by kernel_rfl)) (fun _ _ _ h => h) (Or.inl ⟨by rfl, ?_⟩) hHeld ?_ ?_
        rotate_left
        ·rintro w' ⟨s0, s1, s2, s3, s4⟩
         go_simp
         with_reducible rfl
        rotate_left
        ·simp only [Act.put, qsA, qsB, qsC, qqo, qqp]
         rfl
        refine pure_ (i := 9) (N := some 25) (v := ?_) (a' := ?_) #[true, true, true, true, true, true, true, true, true, true, false, true, true, false, false, true, true, false, false, true, true, false, false, false, false, false, false] rfl rfl (qqn HT_.out (by kernel_rfl)) (fun _ _ _ h => h) (Or.inl ⟨by rfl, ?_⟩) ?_ ?_
        rotate_left
        ·intro w'
         go_simp
         with_reducible rfl
        rotate_left
        ·simp only [Act.put, qsA, qsB, qsC, qqo, qqp]
         rfl
        refine pure_ (i := 10) (N := some 26) (v := ?_) (a' := ?_) #[true, true, true, true, true, true, true, true, true, true, true, true, true, false, false, true, true, false, false, true, true, false, false, false, false, false, false] rfl rfl (qqn HT_.out (by kernel_rfl)) (fun _ _ _ h => h) (Or.inl ⟨by rfl, ?_⟩) ?_ ?_
        rotate_left
        ·intro w'
         go_simp
         with_reducible rfl
        rotate_left
        ·simp only [Act.put, qsA, qsB, qsC, qqo, qqp]
         rfl
        refine take_ (i := 13) (N := some 29) (v := ?_) (a' := ?_) #[true, true, true, true, true, true, true, true, true, true, true, true, true, true, false, true, true, false, false, true, true, false, false, false, false, false, false] rfl rfl (take_ofW HT_.out HW_.out (by kernel_rfl)) (fun _ _ _ h => h) (Or.inl ⟨by rfl, ?_⟩) hHeld ?_ ?_
        rotate_left
        ·rintro w' ⟨s0, s1, s2, s3, s4⟩
         go_simp
         with_reducible rfl
        rotate_left
        ·simp only [Act.put, qsA, qsB, qsC, qqo, qqp]
         rfl
        refine pure_ (i := 14) (N := some 30) (v := ?_) (a' := ?_) #[true, true, true, true, true, true, true, true, true, true, true, true, true, true, true, true, true, false, false, true, true, false, false, false, false, false, false] rfl rfl (qqn HT_.out (by kernel_rfl)) (fun _ _ _ h => h) (Or.inl ⟨by rfl, ?_⟩) ?_ ?_
        rotate_left
        ·intro w'
         go_simp
         with_reducible rfl
        rotate_left
        ·simp only [Act.put, qsA, qsB, qsC, qqo, qqp]
         rfl
        refine take_ (i := 17) (N := some 33) (v := ?_) (a' := ?_) #[true, true, true, true, true, true, true, true, true, true, true, true, true, true, true, true, true, true, false, true, true, false, false, false, false, false, false] rfl rfl (take_ofW HT_.out HW_.out (by kernel_rfl)) (fun _ _ _ h => h) (Or.inl ⟨by rfl, ?_⟩) hHeld ?_ ?_
        rotate_left
        ·rintro w' ⟨s0, s1, s2, s3, s4⟩
         go_simp
         with_reducible rfl
        rotate_left
        ·simp only [Act.put, qsA, qsB, qsC, qqo, qqp]
         rfl
        refine pure_ (i := 18) (N := some 34) (v := ?_) (a' := ?_) #[true, true, true, true, true, true, true, true, true, true, true, true, true, true, true, true, true, true, true, true, true, false, false, false, false, false, false] rfl rfl (qqn HT_.out (by kernel_rfl)) (fun _ _ _ h => h) (Or.inl ⟨by rfl, ?_⟩) ?_ ?_
        rotate_left
        ·intro w'
         go_simp
         with_reducible rfl
        rotate_left
        ·simp only [Act.put, qsA, qsB, qsC, qqo, qqp]
         rfl
        refine take_ (i := 21) (N := some 37) (v := ?_) (a' := ?_) #[true, true, true, true, true, true, true, true, true, true, true, true, true, true, true, true, true, true, true, true, true, true, false, false, false, false, false] rfl rfl (take_ofW HT_.out HW_.out (by kernel_rfl)) (fun _ _ _ h => h) (Or.inl ⟨by rfl, ?_⟩) hHeld ?_ ?_
        rotate_left
        ·rintro w' ⟨s0, s1, s2, s3, s4⟩
         go_simp
         with_reducible rfl
        rotate_left
        ·simp only [Act.put, qsA, qsB, qsC, qqo, qqp]
         rfl
        refine pure_ (i := 22) (N := some 38) (v := ?_) (a' := ?_) #[true, true, true, true, true, true, true, true, true, true, true, true, true, true, true, true, true, true, true, true, true, true, true, false, false, false, false] rfl rfl (qqn HT_.out (by kernel_rfl)) (fun _ _ _ h => h) (Or.inl ⟨by rfl, ?_⟩) ?_ ?_
        rotate_left
        ·intro w'
         go_simp
         with_reducible rfl
        rotate_left
        ·simp only [Act.put, qsA, qsB, qsC, qqo, qqp]
         rfl
        refine pure_ (i := 23) (N := some 39) (v := ?_) (a' := ?_) #[true, true, true, true, true, true, true, true, true, true, true, true, true, true, true, true, true, true, true, true, true, true, true, true, false, false, false] rfl rfl (qqn HT_.out (by kernel_rfl)) (fun _ _ _ h => h) (Or.inl ⟨by rfl, ?_⟩) ?_ ?_
        rotate_left
        ·intro w'
         go_simp
         with_reducible rfl
        rotate_left
        ·simp only [Act.put, qsA, qsB, qsC, qqo, qqp]
         rfl
        refine pure_ (i := 24) (N := some 40) (v := ?_) (a' := ?_) #[true, true, true, true, true, true, true, true, true, true, true, true, true, true, true, true, true, true, true, true, true, true, true, true, true, false, false] rfl rfl (qqn HT_.out (by kernel_rfl)) (fun _ _ _ h => h) (Or.inl ⟨by rfl, ?_⟩) ?_ ?_
        rotate_left
        ·intro w'
         go_simp
         with_reducible rfl
        rotate_left
        ·simp only [Act.put, qsA, qsB, qsC, qqo, qqp]
         rfl
        refine one_ (i := 25) (N := some 6) #[true, true, true, true, true, true, true, true, true, true, true, true, true, true, true, true, true, true, true, true, true, true, true, true, true, true, false] rfl rfl (one_of HT_.out (by kernel_rfl)) (by decide) (fun K hK => ?_)
        refine box_step ?hg (N := 6) ?hd (cs := #[.int .i64 0, .int .i64 0, .int .i64 0, .int .i64 0, .int .i64 0, .int .i64 0]) (t := 27) ?hr ?_; (case hd => rfl); (case hg => rfl); (case hr => first | (go_simp; done) | (go_simp; rfl))
        intro Q6 hg w43 hbox hb
        have n0_ := bbl Q9 hb
        have n1_ := bst HB hb
        have n2_ := Aside0.mk (hbox)
        have n3_ := szl HB hg
        have n4_ := szl HB hg
        have n5_ := nel Q9 hg
        have n6_ := ner Q9 hg
        clear Q9
        clear HB
        have Q9 := n0_
        have HB := n1_
        have Qa := n2_
        have Q0 := n3_
        have GE282 := n4_
        have Q7 := n5_
        have Q8 := n6_
        clear n0_ n1_ n2_ n3_ n4_ n5_ n6_
        clear hb hbox hg
        refine hK.out _ _ ⟨((HB.out.cell (World.block_lt_of_cell? w _ Q1)).trans Q1), ((HB.out.cell (World.block_lt_of_cell? w _ Q2)).trans Q2), ((HB.out.cell (World.block_lt_of_cell? w _ Q3)).trans Q3), ((HB.out.cell (World.block_lt_of_cell? w _ Q4)).trans Q4), ((HB.out.cell (World.block_lt_of_cell? w _ Q5)).trans Q5)⟩ (fun hHeld => ?_)
        clear hK K
        refine norm_ (a' := ?_) ?_ ?_
        rotate_left
        ·show Act.put _ (some 6) _ = _
         simp only [Act.put, qsA, qsB, qsC, qqo, qqp]
         rfl
        refine one_ (i := 26) (N := none) #[true, true, true, true, true, true, true, true, true, true, true, true, true, true, true, true, true, true, true, true, true, true, true, true, true, true, true] rfl rfl (one_of HT_.out (by kernel_rfl)) (by decide) (fun K hK => ?_)
        have hs44 : w43.cell? ⟨Q6, 0, none⟩ = some (.int .i64 0) := (qql Qa.out 0).trans rfl
        have hfs44 := qqe Qa.out 0
        have hns44_0 := Q7.out
        have hms44_0 := Q8.out
        have hs45 : w43.cell? ⟨Q6, 1, none⟩ = some (.int .i64 0) := (qql Qa.out 1).trans rfl
        have hfs45 := qqe Qa.out 1
        have hns45_0 := Q7.out
        have hms45_0 := Q8.out
        have hs46 : w43.cell? ⟨Q6, 2, none⟩ = some (.int .i64 0) := (qql Qa.out 2).trans rfl
        have hfs46 := qqe Qa.out 2
        have hns46_0 := Q7.out
        have hms46_0 := Q8.out
        have hs47 : w43.cell? ⟨Q6, 3, none⟩ = some (.int .i64 0) := (qql Qa.out 3).trans rfl
        have hfs47 := qqe Qa.out 3
        have hns47_0 := Q7.out
        have hms47_0 := Q8.out
        have hs48 : w43.cell? ⟨Q6, 4, none⟩ = some (.int .i64 0) := (qql Qa.out 4).trans rfl
        have hfs48 := qqe Qa.out 4
        have hns48_0 := Q7.out
        have hms48_0 := Q8.out
        have hs49 : w43.cell? ⟨Q6, 5, none⟩ = some (.int .i64 0) := (qql Qa.out 5).trans rfl
        have hfs49 := qqe Qa.out 5
        have hns49_0 := Q7.out
        have hms49_0 := Q8.out
        refine skip_ (w1 := ?_) (by rfl) rfl ?_ ?_
        rotate_left
        ·go_simp
         rfl
        refine hK.out _ _ ⟨((qqm (p := ⟨Q6, _, none⟩) (by first | exact nbA Q1 Q0.out | exact nbB Q1 Q0.out | exact nbC Q1 Q0.out | exact nbD Q1 Q0.out) _).trans (((qqm (p := ⟨Q6, _, none⟩) (by first | exact nbA Q1 Q0.out | exact nbB Q1 Q0.out | exact nbC Q1 Q0.out | exact nbD Q1 Q0.out) _).trans (((qqm (p := ⟨Q6, _, none⟩) (by first | exact nbA Q1 Q0.out | exact nbB Q1 Q0.out | exact nbC Q1 Q0.out | exact nbD Q1 Q0.out) _).trans (((qqm (p := ⟨Q6, _, none⟩) (by first | exact nbA Q1 Q0.out | exact nbB Q1 Q0.out | exact nbC Q1 Q0.out | exact nbD Q1 Q0.out) _).trans (((qqm (p := ⟨Q6, _, none⟩) (by first | exact nbA Q1 Q0.out | exact nbB Q1 Q0.out | exact nbC Q1 Q0.out | exact nbD Q1 Q0.out) _).trans (((qqm (p := ⟨Q6, _, none⟩) (by first | exact nbA Q1 Q0.out | exact nbB Q1 Q0.out | exact nbC Q1 Q0.out | exact nbD Q1 Q0.out) _).trans (hHeld.1)))))))))))), ((qqm (p := ⟨Q6, _, none⟩) (by first | exact nbA Q2 Q0.out | exact nbB Q2 Q0.out | exact nbC Q2 Q0.out | exact nbD Q2 Q0.out) _).trans (((qqm (p := ⟨Q6, _, none⟩) (by first | exact nbA Q2 Q0.out | exact nbB Q2 Q0.out | exact nbC Q2 Q0.out | exact nbD Q2 Q0.out) _).trans (((qqm (p := ⟨Q6, _, none⟩) (by first | exact nbA Q2 Q0.out | exact nbB Q2 Q0.out | exact nbC Q2 Q0.out | exact nbD Q2 Q0.out) _).trans (((qqm (p := ⟨Q6, _, none⟩) (by first | exact nbA Q2 Q0.out | exact nbB Q2 Q0.out | exact nbC Q2 Q0.out | exact nbD Q2 Q0.out) _).trans (((qqm (p := ⟨Q6, _, none⟩) (by first | exact nbA Q2 Q0.out | exact nbB Q2 Q0.out | exact nbC Q2 Q0.out | exact nbD Q2 Q0.out) _).trans (((qqm (p := ⟨Q6, _, none⟩) (by first | exact nbA Q2 Q0.out | exact nbB Q2 Q0.out | exact nbC Q2 Q0.out | exact nbD Q2 Q0.out) _).trans (hHeld.2.1)))))))))))), ((qqm (p := ⟨Q6, _, none⟩) (by first | exact nbA Q3 Q0.out | exact nbB Q3 Q0.out | exact nbC Q3 Q0.out | exact nbD Q3 Q0.out) _).trans (((qqm (p := ⟨Q6, _, none⟩) (by first | exact nbA Q3 Q0.out | exact nbB Q3 Q0.out | exact nbC Q3 Q0.out | exact nbD Q3 Q0.out) _).trans (((qqm (p := ⟨Q6, _, none⟩) (by first | exact nbA Q3 Q0.out | exact nbB Q3 Q0.out | exact nbC Q3 Q0.out | exact nbD Q3 Q0.out) _).trans (((qqm (p := ⟨Q6, _, none⟩) (by first | exact nbA Q3 Q0.out | exact nbB Q3 Q0.out | exact nbC Q3 Q0.out | exact nbD Q3 Q0.out) _).trans (((qqm (p := ⟨Q6, _, none⟩) (by first | exact nbA Q3 Q0.out | exact nbB Q3 Q0.out | exact nbC Q3 Q0.out | exact nbD Q3 Q0.out) _).trans (((qqm (p := ⟨Q6, _, none⟩) (by first | exact nbA Q3 Q0.out | exact nbB Q3 Q0.out | exact nbC Q3 Q0.out | exact nbD Q3 Q0.out) _).trans (hHeld.2.2.1)))))))))))), ((qqm (p := ⟨Q6, _, none⟩) (by first | exact nbA Q4 Q0.out | exact nbB Q4 Q0.out | exact nbC Q4 Q0.out | exact nbD Q4 Q0.out) _).trans (((qqm (p := ⟨Q6, _, none⟩) (by first | exact nbA Q4 Q0.out | exact nbB Q4 Q0.out | exact nbC Q4 Q0.out | exact nbD Q4 Q0.out) _).trans (((qqm (p := ⟨Q6, _, none⟩) (by first | exact nbA Q4 Q0.out | exact nbB Q4 Q0.out | exact nbC Q4 Q0.out | exact nbD Q4 Q0.out) _).trans (((qqm (p := ⟨Q6, _, none⟩) (by first | exact nbA Q4 Q0.out | exact nbB Q4 Q0.out | exact nbC Q4 Q0.out | exact nbD Q4 Q0.out) _).trans (((qqm (p := ⟨Q6, _, none⟩) (by first | exact nbA Q4 Q0.out | exact nbB Q4 Q0.out | exact nbC Q4 Q0.out | exact nbD Q4 Q0.out) _).trans (((qqm (p := ⟨Q6, _, none⟩) (by first | exact nbA Q4 Q0.out | exact nbB Q4 Q0.out | exact nbC Q4 Q0.out | exact nbD Q4 Q0.out) _).trans (hHeld.2.2.2.1)))))))))))), ((qqm (p := ⟨Q6, _, none⟩) (by first | exact nbA Q5 Q0.out | exact nbB Q5 Q0.out | exact nbC Q5 Q0.out | exact nbD Q5 Q0.out) _).trans (((qqm (p := ⟨Q6, _, none⟩) (by first | exact nbA Q5 Q0.out | exact nbB Q5 Q0.out | exact nbC Q5 Q0.out | exact nbD Q5 Q0.out) _).trans (((qqm (p := ⟨Q6, _, none⟩) (by first | exact nbA Q5 Q0.out | exact nbB Q5 Q0.out | exact nbC Q5 Q0.out | exact nbD Q5 Q0.out) _).trans (((qqm (p := ⟨Q6, _, none⟩) (by first | exact nbA Q5 Q0.out | exact nbB Q5 Q0.out | exact nbC Q5 Q0.out | exact nbD Q5 Q0.out) _).trans (((qqm (p := ⟨Q6, _, none⟩) (by first | exact nbA Q5 Q0.out | exact nbB Q5 Q0.out | exact nbC Q5 Q0.out | exact nbD Q5 Q0.out) _).trans (((qqm (p := ⟨Q6, _, none⟩) (by first | exact nbA Q5 Q0.out | exact nbB Q5 Q0.out | exact nbC Q5 Q0.out | exact nbD Q5 Q0.out) _).trans (hHeld.2.2.2.2))))))))))))⟩ (fun hHeld => ?_)
        clear hK K
        refine done_ (done_of HT_.out (by kernel_rfl)) ?_
        have hnb50 := Q7.out
        have hnc50 := Q8.out
        obtain ⟨_, _, _, _, _, _⟩ := bcells6 Q9.out
        obtain ⟨_, _, _, _, _, _⟩ := bfrozen6 Q9.out
        try go_wp2
        refine bodyPost_ret (results_ct rfl _ _ Qh 27 #[.int .i64 0, .int .i64 0, .int .i64 0, .int .i64 0, .int .i64 0, .int .i64 0] (0, 0) _ rfl (by exact bput6 (bfar6 Q9.out Q7.out)) Tryd.underlying27 rfl (by kernel_rfl)) rfl ?_
        exact ⟨by first | rfl | (simp [qqj, qqi] <;> rfl) | (simp [*, qqj, qqi] <;> rfl), by repeat (first | (with_reducible first | exact HB.out | apply qqc | apply qqa | apply qqb | refine qqd ?_ GE274.out | refine qqd ?_ GE282.out) | exact HB.out)⟩
      ·rw [if_neg c10] at H
       exact absurd H (by simp)
     ·rw [if_neg c9] at H
      exact absurd H (by simp)
    ·rw [if_neg c8] at H
     exact absurd H (by simp)
   ·rw [if_neg c7] at H
    exact absurd H (by simp)
  ·rw [if_neg c6] at H
   exact absurd H (by simp)
end Go.Proofs.YtpaoofkahhhjaaaDoor.All
