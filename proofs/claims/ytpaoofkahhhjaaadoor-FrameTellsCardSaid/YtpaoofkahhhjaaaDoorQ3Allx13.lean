/- Contracts of Go functions that this seat comes to, each with a plain function that tells its answers; conditions: those that each contract names. Written by a program of this session (wip/print) over the print words. -/
import Derived.Test.YtpaoofkahhhjaaaDoorQ3Allx0
import Derived.Test.YtpaoofkahhhjaaaDoorQ3Allx6
import Derived.Test.YtpaoofkahhhjaaaDoorQ3Allx11
import Derived.Test.YtpaoofkahhhjaaaDoorQ3Allx12
namespace Go.Proofs.YtpaoofkahhhjaaaDoor.All
open Go.RowKit Go.Proofs.YtpaoofkahhhjaaaDoorW.PrintWords Go.Proofs.YtpaoofkahhhjaaaDoorW.PrintLast Go.Proofs.YtpaoofkahhhjaaaDoorW.PrintMore
attribute [local go_sem] max2_int min2_int max_two min_two max_three min_three max_four min_four
set_option linter.unusedVariables false
set_option linter.unusedSimpArgs false
def wayfinderref05_Put.f (k : Nat) (a0_0 : Int) (a0_1 : Int) (a0_2 : Int) (a0_3 : Int) (a0_4 : Int) (a0_5 : Int) (a0_6 : Int) (a0_7 : Int) (a0_8 : Int) (a0_9 : Int) : Option (List Int × Int) := (wayfinderref05_May.f k a0_0 a0_1 a0_2 a0_3 a0_4 a0_5 a0_6 a0_7 a0_8 a0_9).bind fun t210 => (if t210 = true then ((wayfinderref02_PutAll.f k (([a0_0, a0_1, a0_2, a0_3] : List Int)) (([1, 3, 3, 2] : List Int))).bind fun Q7 => (if a0_0 = 2 then ((wayfinderref04_Put.f k a0_4 a0_5 a0_6 a0_7 a0_8 a0_9).bind fun Qa => (if Q7.1.length + Qa.1.length < 140737488355328 then (some ((Q7.1 ++ Qa.1), 0)) else (none))) else (some (Q7.1, 0)))) else (some (([] : List Int), 1)))
theorem wayfinderref05_Put.mono : ∀ a0 a1 a2 a3 a4 a5 a6 a7 a8 a9 k, LeO (wayfinderref05_Put.f k a0 a1 a2 a3 a4 a5 a6 a7 a8 a9) (wayfinderref05_Put.f (k + 1) a0 a1 a2 a3 a4 a5 a6 a7 a8 a9) := by
 intro a0 a1 a2 a3 a4 a5 a6 a7 a8 a9 k
 unfold wayfinderref05_Put.f
 repeat' first
   | (with_reducible exact wayfinderref02_PutAll.mono _ _ _)
   | (with_reducible exact wayfinderref04_Put.mono _ _ _ _ _ _ _)
   | (with_reducible exact wayfinderref05_May.mono _ _ _ _ _ _ _ _ _ _ _)
   | (with_reducible exact LeO.refl _)
   | (with_reducible exact LeO.none _)
   | (with_reducible refine LeO.ite ?_ ?_)
   | (with_reducible refine LeO.bind ?_ (fun _ => ?_))
   | exact wayfinderref02_PutAll.mono _ _ _
   | exact wayfinderref04_Put.mono _ _ _ _ _ _ _
   | exact wayfinderref05_May.mono _ _ _ _ _ _ _ _ _ _ _
   | exact LeO.none _
   | refine LeO.ite ?_ ?_
   | refine LeO.bind ?_ (fun _ => ?_)
set_option maxHeartbeats 8000000 in
set_option maxRecDepth 100000 in
theorem wayfinderref05_Put.calls (k : Nat) (a0_0 : Int) (a0_1 : Int) (a0_2 : Int) (a0_3 : Int) (a0_4 : Int) (a0_5 : Int) (a0_6 : Int) (a0_7 : Int) (a0_8 : Int) (a0_9 : Int) (r1 : List Int) (r2 : Int) (w : World) (h : wayfinderref05_Put.f k a0_0 a0_1 a0_2 a0_3 a0_4 a0_5 a0_6 a0_7 a0_8 a0_9 = some (r1, r2)) :
  Calls Tryd.prog 17 #[.agg #[.int .i64 a0_0, .int .i64 a0_1, .int .i64 a0_2, .int .i64 a0_3, .int .i64 a0_4, .int .i64 a0_5, .int .i64 a0_6, .int .i64 a0_7, .int .i64 a0_8, .int .i64 a0_9]] w fun e w' => ∃ v0_ : Value, e = .returned (.tuple #[v0_, .int .i64 r2]) ∧ Kd.R (Kd.int .u8) 5 w' w.heap.size (fun _ => True) v0_ r1 ∧ Below w.heap.size w w' := by
 have hu29 := Tryd.underlying29
 have hu27 := Tryd.underlying27
 have HB := Aside0.mk (Below.refl w.heap.size w)
 have H : ((wayfinderref05_May.f k a0_0 a0_1 a0_2 a0_3 a0_4 a0_5 a0_6 a0_7 a0_8 a0_9).bind fun t210 => (if t210 = true then ((wayfinderref02_PutAll.f k (([a0_0, a0_1, a0_2, a0_3] : List Int)) (([1, 3, 3, 2] : List Int))).bind fun Q7 => (if a0_0 = 2 then ((wayfinderref04_Put.f k a0_4 a0_5 a0_6 a0_7 a0_8 a0_9).bind fun Qa => (if Q7.1.length + Qa.1.length < 140737488355328 then (some ((Q7.1 ++ Qa.1), 0)) else (none))) else (some (Q7.1, 0)))) else (some (([] : List Int), 1)))) = some (r1, r2) := h
 clear h
 replace H := Option.bind_eq_some_iff.mp H
 obtain ⟨t210, A20, H⟩ := H
 replace H : (if t210 = true then ((wayfinderref02_PutAll.f k (([a0_0, a0_1, a0_2, a0_3] : List Int)) (([1, 3, 3, 2] : List Int))).bind fun Q7 => (if a0_0 = 2 then ((wayfinderref04_Put.f k a0_4 a0_5 a0_6 a0_7 a0_8 a0_9).bind fun Qa => (if Q7.1.length + Qa.1.length < 140737488355328 then (some ((Q7.1 ++ Qa.1), 0)) else (none))) else (some (Q7.1, 0)))) else (some (([] : List Int), 1))) = some (r1, r2) := H
 have A2 := Aside0.mk A20
 clear A20
 by_cases c3 : t210 = true
 ·subst c3
  have H1 : ((wayfinderref02_PutAll.f k (([a0_0, a0_1, a0_2, a0_3] : List Int)) (([1, 3, 3, 2] : List Int))).bind fun Q7 => (if a0_0 = 2 then ((wayfinderref04_Put.f k a0_4 a0_5 a0_6 a0_7 a0_8 a0_9).bind fun Qa => (if Q7.1.length + Qa.1.length < 140737488355328 then (some ((Q7.1 ++ Qa.1), 0)) else (none))) else (some (Q7.1, 0)))) = some (r1, r2) := by rw [if_pos rfl] at H; exact H
  clear H
  have H := H1
  clear H1
  obtain ⟨y211, hy211⟩ : ∃ y_ : List Int, y_ = (([a0_0, a0_1, a0_2, a0_3] : List Int)) := ⟨_, rfl⟩
  replace H : ((wayfinderref02_PutAll.f k y211 (([1, 3, 3, 2] : List Int))).bind fun Q7 => (if a0_0 = 2 then ((wayfinderref04_Put.f k a0_4 a0_5 a0_6 a0_7 a0_8 a0_9).bind fun Qa => (if Q7.1.length + Qa.1.length < 140737488355328 then (some ((Q7.1 ++ Qa.1), 0)) else (none))) else (some (Q7.1, 0)))) = some (r1, r2) := by first | (rw [hy211]; with_reducible exact H) | (have H2_ := (Option.bind_some _ _).symm.trans H; rw [hy211]; with_reducible exact H2_) | (have H2_ := (Option.bind_some _ _).symm.trans H; with_reducible exact H2_) | with_reducible exact H | (rw [hy211]; exact H) | exact H
  have Ny211 := Aside0.mk hy211
  clear hy211
  obtain ⟨y214, hy214⟩ : ∃ y_ : List Int, y_ = (([1, 3, 3, 2] : List Int)) := ⟨_, rfl⟩
  replace H : ((wayfinderref02_PutAll.f k y211 y214).bind fun Q7 => (if a0_0 = 2 then ((wayfinderref04_Put.f k a0_4 a0_5 a0_6 a0_7 a0_8 a0_9).bind fun Qa => (if Q7.1.length + Qa.1.length < 140737488355328 then (some ((Q7.1 ++ Qa.1), 0)) else (none))) else (some (Q7.1, 0)))) = some (r1, r2) := by first | (rw [hy214]; with_reducible exact H) | (have H2_ := (Option.bind_some _ _).symm.trans H; rw [hy214]; with_reducible exact H2_) | (have H2_ := (Option.bind_some _ _).symm.trans H; with_reducible exact H2_) | with_reducible exact H | (rw [hy214]; exact H) | exact H
  have Ny214 := Aside0.mk hy214
  clear hy214
  replace H := Option.bind_eq_some_iff.mp H
  obtain ⟨⟨t217, t218⟩, A40, H⟩ := H
  replace H : (if a0_0 = 2 then ((wayfinderref04_Put.f k a0_4 a0_5 a0_6 a0_7 a0_8 a0_9).bind fun Qa => (if t217.length + Qa.1.length < 140737488355328 then (some ((t217 ++ Qa.1), 0)) else (none))) else (some (t217, 0))) = some (r1, r2) := H
  have A4 := Aside0.mk A40
  clear A40
  by_cases c5 : a0_0 = 2
  ·rw [if_pos c5] at H
   have c5b0 : (a0_0 == 2) = true := beq_iff_eq.mpr c5
   have c5b1 : (a0_0 != 2) = false := bne_eq_false_iff_eq.mpr c5
   clear c5
   replace H := Option.bind_eq_some_iff.mp H
   obtain ⟨⟨t221, t224⟩, A60, H⟩ := H
   replace H : (if t217.length + t221.length < 140737488355328 then (some ((t217 ++ t221), 0)) else (none)) = some (r1, r2) := H
   have A6 := Aside0.mk A60
   clear A60
   by_cases c7 : t217.length + t221.length < 140737488355328
   ·rw [if_pos c7] at H
    have LMc7 := Aside0.mk c7
    clear c7
    obtain ⟨y225, hy225⟩ : ∃ y_ : List Int, y_ = (t217 ++ t221) := ⟨_, rfl⟩
    replace H : (some (y225, 0)) = some (r1, r2) := by first | (rw [hy225]; with_reducible exact H) | (have H2_ := (Option.bind_some _ _).symm.trans H; rw [hy225]; with_reducible exact H2_) | (have H2_ := (Option.bind_some _ _).symm.trans H; with_reducible exact H2_) | with_reducible exact H | (rw [hy225]; exact H) | exact H
    have Ny225 := Aside0.mk hy225
    clear hy225
    simp only [Option.some.injEq, Prod.mk.injEq] at H
    obtain ⟨rfl, rfl⟩ := H
    go_enter Tryd.func17, Tryd.ntmps17
    go_wp2_with (first | ((with_reducible refine qqr (N := 1) rfl ?_); refine qqw ?hg (N := 1) ?hd (cs := #[.int .i64 a0_0, .int .i64 a0_1, .int .i64 a0_2, .int .i64 a0_3, .int .i64 a0_4, .int .i64 a0_5, .int .i64 a0_6, .int .i64 a0_7, .int .i64 a0_8, .int .i64 a0_9]) (t := 29) ?hr ?_; (case hd => rfl); (case hg => rfl); (case hr => first | (go_simp; done) | (go_simp; rfl)); intro gb209 hg w8 hbox hb; have n0_ := bst HB hb; have n1_ := Aside0.mk (hbox); have n2_ := szl HB hg; have n3_ := szl HB hg; clear HB; have HB := n0_; have Q2 := n1_; have GW209 := n2_; have GE209 := n3_; clear n0_ n1_ n2_ n3_; clear hb hbox hg; obtain ⟨_, _, _, _, _, _, _, _, _, _⟩ := qqz Q2.out; obtain ⟨_, _, _, _, _, _, _, _, _, _⟩ := qqx Q2.out) | ((with_reducible refine qqo (f := 34) rfl ?_); refine goesL_ (some 10) rfl rfl Tryd.func34 (by kernel_rfl) rfl #[.agg #[.int .i64 a0_0, .int .i64 a0_1, .int .i64 a0_2, .int .i64 a0_3, .int .i64 a0_4, .int .i64 a0_5, .int .i64 a0_6, .int .i64 a0_7, .int .i64 a0_8, .int .i64 a0_9]] rfl (by (try simp only [List.map_toArray, List.map_cons, List.map_nil]); first | done | rfl | (simp only [List.length_drop, List.length_take]; rfl)) ?_; (with_reducible refine (wayfinderref05_May.calls k a0_0 a0_1 a0_2 a0_3 a0_4 a0_5 a0_6 a0_7 a0_8 a0_9 true _ A2.out).mono ?_); rintro e w10 ⟨rfl, hb⟩; refine ⟨_, rfl, ?_⟩; replace Q2 := bbl Q2 hb; replace HB := bst HB hb; (try clear hb); (try clear hk); obtain ⟨hcz11_0, hcz11_1, hcz11_2, hcz11_3, hcz11_4, hcz11_5, hcz11_6, hcz11_7, hcz11_8, hcz11_9⟩ := qqz Q2.out; obtain ⟨hfz11_0, hfz11_1, hfz11_2, hfz11_3, hfz11_4, hfz11_5, hfz11_6, hfz11_7, hfz11_8, hfz11_9⟩ := qqx Q2.out) | ((with_reducible refine qqr (N := 22) rfl ?_); refine Kd.R_lit (Kd.int .i64) _ 3 ?hg (N := 22) ?hd (xs := ([a0_0, a0_1, a0_2, a0_3] : List Int)) (inner := [.int .i64 a0_0, .int .i64 a0_1, .int .i64 a0_2, .int .i64 a0_3]) (ok := fun _ => True) (okp := fun _ => True) ?hr ?hp (fun _ hk => hk) trivial (Below.refl _ _) (Nat.le_refl _) (by simp) ?_; (case hd => rfl); (case hg => rfl); (case hr => first | (go_simp; done) | (go_simp; rfl)); (case hp => exact (Reps.one (show Kd.M (Kd.int .i64) _ _ _ a0_0 [.int .i64 a0_0] from rfl) (Reps.one (show Kd.M (Kd.int .i64) _ _ _ a0_1 [.int .i64 a0_1] from rfl) (Reps.one (show Kd.M (Kd.int .i64) _ _ _ a0_2 [.int .i64 a0_2] from rfl) (Reps.one (show Kd.M (Kd.int .i64) _ _ _ a0_3 [.int .i64 a0_3] from rfl) (Reps.none _ _)))))); intro v212 w12 ho13 hb hg_ hnew_; clear hg_ hnew_; (first | rw [← Ny211.out] at ho13 | (simp only [Int.reduceToNat] at ho13; rw [← Ny211.out] at ho13)); have Q5 := Aside0.mk (Kd.R_lower ho13 (qqt (by repeat (first | (with_reducible first | exact HB.out | apply qqc | apply qqa | apply qqb | refine qqg ?_ GE209.out) | exact HB.out)))); replace Q2 := bbl Q2 hb; replace HB := bst HB hb; clear hb ho13) | ((with_reducible refine qqr (N := 23) rfl ?_); refine Kd.R_lit (Kd.int .i64) _ 3 ?hg (N := 23) ?hd (xs := ([1, 3, 3, 2] : List Int)) (inner := [.int .i64 1, .int .i64 3, .int .i64 3, .int .i64 2]) (ok := fun _ => True) (okp := fun _ => True) ?hr ?hp (fun _ hk => hk) trivial (Below.refl _ _) (Nat.le_refl _) (by simp) ?_; (case hd => rfl); (case hg => rfl); (case hr => first | (go_simp; done) | (go_simp; rfl)); (case hp => exact (Reps.one (show Kd.M (Kd.int .i64) _ _ _ 1 [.int .i64 1] from rfl) (Reps.one (show Kd.M (Kd.int .i64) _ _ _ 3 [.int .i64 3] from rfl) (Reps.one (show Kd.M (Kd.int .i64) _ _ _ 3 [.int .i64 3] from rfl) (Reps.one (show Kd.M (Kd.int .i64) _ _ _ 2 [.int .i64 2] from rfl) (Reps.none _ _)))))); intro v215 w14 ho15 hb hg_ hnew_; clear hg_ hnew_; (first | rw [← Ny214.out] at ho15 | (simp only [Int.reduceToNat] at ho15; rw [← Ny214.out] at ho15)); have n0_ := Aside0.mk (Kd.R_elder' (by (with_reducible repeat (first | apply Kd.R_alloc | apply Kd.R_drewN | apply Kd.R_drew)); exact Q5.out) (Kd.R_base ho15) hb); have n1_ := Aside0.mk (Kd.R_lower (Kd.R_new' ho15 (Kd.R_lt (by (with_reducible repeat (first | apply Kd.R_alloc | apply Kd.R_drewN | apply Kd.R_drew)); exact Q5.out))) (qqt (by repeat (first | (with_reducible first | exact HB.out | apply qqc | apply qqa | apply qqb | refine qqg ?_ GE209.out) | exact HB.out)))); have n2_ := bbl Q2 hb; have n3_ := bst HB hb; clear Q5; clear Q2; clear HB; have Q5 := n0_; have Qc := n1_; have Q2 := n2_; have HB := n3_; clear n0_ n1_ n2_ n3_; clear hb ho15; obtain ⟨Ao16, co16, eo16⟩ := Kd.R_slice Q5.out; subst eo16; obtain ⟨Ao17, co17, eo17⟩ := Kd.R_slice Qc.out; subst eo17) | ((with_reducible refine qqo (f := 35) rfl ?_); refine goesL_ (some 24) rfl rfl Tryd.func35 (by kernel_rfl) rfl #[.slice Ao16 y211.length co16, .slice Ao17 y214.length co17] rfl (by (try simp only [List.map_toArray, List.map_cons, List.map_nil]); first | done | rfl | (simp only [List.length_drop, List.length_take]; rfl)) ?_; (with_reducible refine (wayfinderref02_PutAll.calls k _ _ y211 _ _ y214 t217 t218 _ ?side1 ?side2 ?side3 ?side4 A4.out).mono ?_); (case side1 => repeat (first | exact (Kd.R_reads' Q5.out).2.2 | (with_reducible refine Kd.C_alloc ?_ _) | (with_reducible refine Kd.C_drewN ?_ _) | (with_reducible refine Kd.C_drew ?_))); (case side2 => exact (Kd.R_reads' Q5.out).2.1); (case side3 => repeat (first | exact (Kd.R_reads' Qc.out).2.2 | (with_reducible refine Kd.C_alloc ?_ _) | (with_reducible refine Kd.C_drewN ?_ _) | (with_reducible refine Kd.C_drew ?_))); (case side4 => exact (Kd.R_reads' Qc.out).2.1); rintro e w18 ⟨v219, rfl, ho0, hb⟩; refine ⟨_, rfl, ?_⟩; replace Q5 := Aside0.mk (Kd.R_below (by (with_reducible repeat (first | apply Kd.R_alloc | apply Kd.R_drewN | apply Kd.R_drew)); exact Q5.out) hb); replace Qc := Aside0.mk (Kd.R_below (by (with_reducible repeat (first | apply Kd.R_alloc | apply Kd.R_drewN | apply Kd.R_drew)); exact Qc.out) hb); have Qj := Aside0.mk (Kd.R_lower ho0 (qqt (by repeat (first | (with_reducible first | exact HB.out | apply qqc | apply qqa | apply qqb | refine qqg ?_ GE209.out) | exact HB.out)))); replace Q2 := bbl Q2 hb; replace HB := bst HB hb; (try clear hb); (try clear hk); (try clear ho0); obtain ⟨_, _, _, _, _, _, _, _, _, _⟩ := qqz Q2.out; obtain ⟨_, _, _, _, _, _, _, _, _, _⟩ := qqx Q2.out) | ((with_reducible refine qqo (f := 36) rfl ?_); refine goesL_ (some 33) rfl rfl Tryd.func36 (by kernel_rfl) rfl #[.agg #[.int .i64 a0_4, .int .i64 a0_5, .int .i64 a0_6, .int .i64 a0_7, .int .i64 a0_8, .int .i64 a0_9]] rfl (by (try simp only [List.map_toArray, List.map_cons, List.map_nil]); first | done | rfl | (simp only [List.length_drop, List.length_take]; rfl)) ?_; (with_reducible refine (wayfinderref04_Put.calls k a0_4 a0_5 a0_6 a0_7 a0_8 a0_9 t221 t224 _ A6.out).mono ?_); rintro e w20 ⟨v222, rfl, ho0, hb⟩; refine ⟨_, rfl, ?_⟩; have n0_ := Aside0.mk (Kd.R_below (by (with_reducible repeat (first | apply Kd.R_alloc | apply Kd.R_drewN | apply Kd.R_drew)); exact Q5.out) hb); have n1_ := Aside0.mk (Kd.R_below (by (with_reducible repeat (first | apply Kd.R_alloc | apply Kd.R_drewN | apply Kd.R_drew)); exact Qc.out) hb); have n2_ := Aside0.mk (Kd.R_elder' (by (with_reducible repeat (first | apply Kd.R_alloc | apply Kd.R_drewN | apply Kd.R_drew)); exact Qj.out) (Kd.R_base ho0) hb); have n3_ := Aside0.mk (Kd.R_lower (Kd.R_new' ho0 (Kd.R_lt (by (with_reducible repeat (first | apply Kd.R_alloc | apply Kd.R_drewN | apply Kd.R_drew)); exact Qj.out))) (qqt (by repeat (first | (with_reducible first | exact HB.out | apply qqc | apply qqa | apply qqb | refine qqg ?_ GE209.out) | exact HB.out)))); have n4_ := bbl Q2 hb; have n5_ := bst HB hb; clear Q5; clear Qc; clear Qj; clear Q2; clear HB; have Q5 := n0_; have Qc := n1_; have Qj := n2_; have Qr := n3_; have Q2 := n4_; have HB := n5_; clear n0_ n1_ n2_ n3_ n4_ n5_; (try clear hb); (try clear hk); (try clear ho0); obtain ⟨Ao22, co22, eo22⟩ := Kd.R_slice Qr.out; subst eo22) | ((with_reducible refine gate_builtin (b := .append) (xs := #[.tmp 36, .tmp 37]) rfl ?_); at_builtin; refine Kd.R_append_rows (Kd.int .u8) (w0 := w) w.heap.size rfl (.tmp 36) (.tmp 37) 31 5 (.int .u8 0) 1 rfl Tryd.underlying31 info5 rfl (by decide) (by omega) v219 t217 t221 _ _ _ (fun k_ => some k_ ≠ (.slice Ao22 t221.length co22 : Value).ownBlock) (fun _ => False) rfl rfl ?aO ?aR (fun _ _ h => h) (fun _ h => h.elim) ?aF ?aB ?aS ?aL ?_; (case aR => repeat (first | exact (Kd.R_reads' Qr.out).2.2 | (with_reducible refine Kd.C_alloc ?_ _) | (with_reducible refine Kd.C_drewN ?_ _) | (with_reducible refine Kd.C_drew ?_))); (case aB => exact (by repeat (first | (with_reducible first | exact HB.out | apply qqc | apply qqa | apply qqb | refine qqg ?_ GE209.out) | exact HB.out))); (case aF => exact (fun k_ hk => Kd.fresh' (Kd.R_lt (by (with_reducible repeat (first | apply Kd.R_alloc | apply Kd.R_drewN | apply Kd.R_drew)); exact Qr.out)) k_ hk)); (case aO => exact (by (with_reducible repeat (first | apply Kd.R_alloc | apply Kd.R_drewN | apply Kd.R_drew)); exact Kd.R_mono Qj.out (fun _ hk => hk.2))); (case aS => exact (qqt (by repeat (first | (with_reducible first | exact HB.out | apply qqc | apply qqa | apply qqb | refine qqg ?_ GE209.out) | exact HB.out)))); (case aL => have := LMc7.out; omega); intro v226 w21 ho hb hg hat; rw [← Ny225.out] at ho; have n0_ := Aside0.mk (blk_grown (g := gb209) (o := .cells #[.int .i64 a0_0, .int .i64 a0_1, .int .i64 a0_2, .int .i64 a0_3, .int .i64 a0_4, .int .i64 a0_5, .int .i64 a0_6, .int .i64 a0_7, .int .i64 a0_8, .int .i64 a0_9] 29 (0, 0)) (by (with_reducible repeat (first | refine qqd ?_ _ | refine qqf ?_ | refine qqe ?_ _)); exact Q2.out) hg (Kd.R_ne Qj.out Q2.out (by decide))); have n1_ := Aside0.mk (Kd.R_over' (by (with_reducible repeat (first | apply Kd.R_alloc | apply Kd.R_drewN | apply Kd.R_drew)); exact Q5.out) (Kd.R_typed (by (with_reducible repeat (first | apply Kd.R_alloc | apply Kd.R_drewN | apply Kd.R_drew)); exact Qj.out)) (by decide) hg); have n2_ := Aside0.mk (Kd.R_over' (by (with_reducible repeat (first | apply Kd.R_alloc | apply Kd.R_drewN | apply Kd.R_drew)); exact Qc.out) (Kd.R_typed (by (with_reducible repeat (first | apply Kd.R_alloc | apply Kd.R_drewN | apply Kd.R_drew)); exact Qj.out)) (by decide) hg); have n3_ := Aside0.mk (Kd.R_after (ok := (fun _ => True)) (by (with_reducible repeat (first | apply Kd.R_alloc | apply Kd.R_drewN | apply Kd.R_drew)); exact Qr.out) hg hat); have n4_ := Aside0.mk (hb); have n5_ := Aside0.mk (ho); clear Q2; clear Q5; clear Qc; clear Qr; clear HB; clear Qj; have Q2 := n0_; have Q5 := n1_; have Qc := n2_; have Qr := n3_; have HB := n4_; have HO227 := n5_; clear n0_ n1_ n2_ n3_ n4_ n5_; clear ho hb hg hat))
    go_ret2
    exact ⟨_, by first | rfl | (simp [qqk, qqj] <;> rfl) | (simp [*, qqk, qqj] <;> rfl), by (with_reducible repeat (first | apply Kd.R_alloc | apply Kd.R_drewN | apply Kd.R_drew)); exact Kd.R_mono HO227.out (fun _ hk => trivial), by repeat (first | (with_reducible first | exact HB.out | apply qqc | apply qqa | apply qqb | refine qqg ?_ GE209.out) | exact HB.out)⟩
   ·rw [if_neg c7] at H
    exact absurd H (by simp)
  ·rw [if_neg c5] at H
   have c5b0 : (a0_0 == 2) = false := beq_eq_false_iff_ne.mpr c5
   have c5b1 : (a0_0 != 2) = true := bne_iff_ne.mpr c5
   simp only [Option.some.injEq, Prod.mk.injEq] at H
   obtain ⟨rfl, rfl⟩ := H
   go_enter Tryd.func17, Tryd.ntmps17
   go_wp2_with (first | ((with_reducible refine qqr (N := 1) rfl ?_); refine qqw ?hg (N := 1) ?hd (cs := #[.int .i64 a0_0, .int .i64 a0_1, .int .i64 a0_2, .int .i64 a0_3, .int .i64 a0_4, .int .i64 a0_5, .int .i64 a0_6, .int .i64 a0_7, .int .i64 a0_8, .int .i64 a0_9]) (t := 29) ?hr ?_; (case hd => rfl); (case hg => rfl); (case hr => first | (go_simp; done) | (go_simp; rfl)); intro gb209 hg w23 hbox hb; have n0_ := bst HB hb; have n1_ := Aside0.mk (hbox); have n2_ := szl HB hg; have n3_ := szl HB hg; clear HB; have HB := n0_; have Q2 := n1_; have GW209 := n2_; have GE209 := n3_; clear n0_ n1_ n2_ n3_; clear hb hbox hg; obtain ⟨_, _, _, _, _, _, _, _, _, _⟩ := qqz Q2.out; obtain ⟨_, _, _, _, _, _, _, _, _, _⟩ := qqx Q2.out) | ((with_reducible refine qqo (f := 34) rfl ?_); refine goesL_ (some 10) rfl rfl Tryd.func34 (by kernel_rfl) rfl #[.agg #[.int .i64 a0_0, .int .i64 a0_1, .int .i64 a0_2, .int .i64 a0_3, .int .i64 a0_4, .int .i64 a0_5, .int .i64 a0_6, .int .i64 a0_7, .int .i64 a0_8, .int .i64 a0_9]] rfl (by (try simp only [List.map_toArray, List.map_cons, List.map_nil]); first | done | rfl | (simp only [List.length_drop, List.length_take]; rfl)) ?_; (with_reducible refine (wayfinderref05_May.calls k a0_0 a0_1 a0_2 a0_3 a0_4 a0_5 a0_6 a0_7 a0_8 a0_9 true _ A2.out).mono ?_); rintro e w25 ⟨rfl, hb⟩; refine ⟨_, rfl, ?_⟩; replace Q2 := bbl Q2 hb; replace HB := bst HB hb; (try clear hb); (try clear hk); obtain ⟨hcz26_0, hcz26_1, hcz26_2, hcz26_3, hcz26_4, hcz26_5, hcz26_6, hcz26_7, hcz26_8, hcz26_9⟩ := qqz Q2.out; obtain ⟨hfz26_0, hfz26_1, hfz26_2, hfz26_3, hfz26_4, hfz26_5, hfz26_6, hfz26_7, hfz26_8, hfz26_9⟩ := qqx Q2.out) | ((with_reducible refine qqr (N := 22) rfl ?_); refine Kd.R_lit (Kd.int .i64) _ 3 ?hg (N := 22) ?hd (xs := ([a0_0, a0_1, a0_2, a0_3] : List Int)) (inner := [.int .i64 a0_0, .int .i64 a0_1, .int .i64 a0_2, .int .i64 a0_3]) (ok := fun _ => True) (okp := fun _ => True) ?hr ?hp (fun _ hk => hk) trivial (Below.refl _ _) (Nat.le_refl _) (by simp) ?_; (case hd => rfl); (case hg => rfl); (case hr => first | (go_simp; done) | (go_simp; rfl)); (case hp => exact (Reps.one (show Kd.M (Kd.int .i64) _ _ _ a0_0 [.int .i64 a0_0] from rfl) (Reps.one (show Kd.M (Kd.int .i64) _ _ _ a0_1 [.int .i64 a0_1] from rfl) (Reps.one (show Kd.M (Kd.int .i64) _ _ _ a0_2 [.int .i64 a0_2] from rfl) (Reps.one (show Kd.M (Kd.int .i64) _ _ _ a0_3 [.int .i64 a0_3] from rfl) (Reps.none _ _)))))); intro v212 w27 ho28 hb hg_ hnew_; clear hg_ hnew_; (first | rw [← Ny211.out] at ho28 | (simp only [Int.reduceToNat] at ho28; rw [← Ny211.out] at ho28)); have Q5 := Aside0.mk (Kd.R_lower ho28 (qqt (by repeat (first | (with_reducible first | exact HB.out | apply qqc | apply qqa | apply qqb | refine qqg ?_ GE209.out) | exact HB.out)))); replace Q2 := bbl Q2 hb; replace HB := bst HB hb; clear hb ho28) | ((with_reducible refine qqr (N := 23) rfl ?_); refine Kd.R_lit (Kd.int .i64) _ 3 ?hg (N := 23) ?hd (xs := ([1, 3, 3, 2] : List Int)) (inner := [.int .i64 1, .int .i64 3, .int .i64 3, .int .i64 2]) (ok := fun _ => True) (okp := fun _ => True) ?hr ?hp (fun _ hk => hk) trivial (Below.refl _ _) (Nat.le_refl _) (by simp) ?_; (case hd => rfl); (case hg => rfl); (case hr => first | (go_simp; done) | (go_simp; rfl)); (case hp => exact (Reps.one (show Kd.M (Kd.int .i64) _ _ _ 1 [.int .i64 1] from rfl) (Reps.one (show Kd.M (Kd.int .i64) _ _ _ 3 [.int .i64 3] from rfl) (Reps.one (show Kd.M (Kd.int .i64) _ _ _ 3 [.int .i64 3] from rfl) (Reps.one (show Kd.M (Kd.int .i64) _ _ _ 2 [.int .i64 2] from rfl) (Reps.none _ _)))))); intro v215 w29 ho30 hb hg_ hnew_; clear hg_ hnew_; (first | rw [← Ny214.out] at ho30 | (simp only [Int.reduceToNat] at ho30; rw [← Ny214.out] at ho30)); have n0_ := Aside0.mk (Kd.R_elder' (by (with_reducible repeat (first | apply Kd.R_alloc | apply Kd.R_drewN | apply Kd.R_drew)); exact Q5.out) (Kd.R_base ho30) hb); have n1_ := Aside0.mk (Kd.R_lower (Kd.R_new' ho30 (Kd.R_lt (by (with_reducible repeat (first | apply Kd.R_alloc | apply Kd.R_drewN | apply Kd.R_drew)); exact Q5.out))) (qqt (by repeat (first | (with_reducible first | exact HB.out | apply qqc | apply qqa | apply qqb | refine qqg ?_ GE209.out) | exact HB.out)))); have n2_ := bbl Q2 hb; have n3_ := bst HB hb; clear Q5; clear Q2; clear HB; have Q5 := n0_; have Qc := n1_; have Q2 := n2_; have HB := n3_; clear n0_ n1_ n2_ n3_; clear hb ho30; obtain ⟨Ao31, co31, eo31⟩ := Kd.R_slice Q5.out; subst eo31; obtain ⟨Ao32, co32, eo32⟩ := Kd.R_slice Qc.out; subst eo32) | ((with_reducible refine qqo (f := 35) rfl ?_); refine goesL_ (some 24) rfl rfl Tryd.func35 (by kernel_rfl) rfl #[.slice Ao31 y211.length co31, .slice Ao32 y214.length co32] rfl (by (try simp only [List.map_toArray, List.map_cons, List.map_nil]); first | done | rfl | (simp only [List.length_drop, List.length_take]; rfl)) ?_; (with_reducible refine (wayfinderref02_PutAll.calls k _ _ y211 _ _ y214 t217 t218 _ ?side1 ?side2 ?side3 ?side4 A4.out).mono ?_); (case side1 => repeat (first | exact (Kd.R_reads' Q5.out).2.2 | (with_reducible refine Kd.C_alloc ?_ _) | (with_reducible refine Kd.C_drewN ?_ _) | (with_reducible refine Kd.C_drew ?_))); (case side2 => exact (Kd.R_reads' Q5.out).2.1); (case side3 => repeat (first | exact (Kd.R_reads' Qc.out).2.2 | (with_reducible refine Kd.C_alloc ?_ _) | (with_reducible refine Kd.C_drewN ?_ _) | (with_reducible refine Kd.C_drew ?_))); (case side4 => exact (Kd.R_reads' Qc.out).2.1); rintro e w33 ⟨v219, rfl, ho0, hb⟩; refine ⟨_, rfl, ?_⟩; replace Q5 := Aside0.mk (Kd.R_below (by (with_reducible repeat (first | apply Kd.R_alloc | apply Kd.R_drewN | apply Kd.R_drew)); exact Q5.out) hb); replace Qc := Aside0.mk (Kd.R_below (by (with_reducible repeat (first | apply Kd.R_alloc | apply Kd.R_drewN | apply Kd.R_drew)); exact Qc.out) hb); have Qj := Aside0.mk (Kd.R_lower ho0 (qqt (by repeat (first | (with_reducible first | exact HB.out | apply qqc | apply qqa | apply qqb | refine qqg ?_ GE209.out) | exact HB.out)))); replace Q2 := bbl Q2 hb; replace HB := bst HB hb; (try clear hb); (try clear hk); (try clear ho0); obtain ⟨_, _, _, _, _, _, _, _, _, _⟩ := qqz Q2.out; obtain ⟨_, _, _, _, _, _, _, _, _, _⟩ := qqx Q2.out))
   go_ret2
   exact ⟨_, by first | rfl | (simp [qqk, qqj] <;> rfl) | (simp [*, qqk, qqj] <;> rfl), by (with_reducible repeat (first | apply Kd.R_alloc | apply Kd.R_drewN | apply Kd.R_drew)); exact Qj.out, by repeat (first | (with_reducible first | exact HB.out | apply qqc | apply qqa | apply qqb | refine qqg ?_ GE209.out) | exact HB.out)⟩
 ·replace c3 := Bool.eq_false_iff.mpr c3
  subst c3
  have H1 : (some (([] : List Int), 1)) = some (r1, r2) := by rw [if_neg (show ¬ (false = true) by decide)] at H; exact H
  clear H
  have H := H1
  clear H1
  simp only [Option.some.injEq, Prod.mk.injEq] at H
  obtain ⟨rfl, rfl⟩ := H
  go_enter Tryd.func17, Tryd.ntmps17
  go_wp2_with (first | ((with_reducible refine qqr (N := 1) rfl ?_); refine qqw ?hg (N := 1) ?hd (cs := #[.int .i64 a0_0, .int .i64 a0_1, .int .i64 a0_2, .int .i64 a0_3, .int .i64 a0_4, .int .i64 a0_5, .int .i64 a0_6, .int .i64 a0_7, .int .i64 a0_8, .int .i64 a0_9]) (t := 29) ?hr ?_; (case hd => rfl); (case hg => rfl); (case hr => first | (go_simp; done) | (go_simp; rfl)); intro gb209 hg w35 hbox hb; have n0_ := bst HB hb; have n1_ := Aside0.mk (hbox); have n2_ := szl HB hg; have n3_ := szl HB hg; clear HB; have HB := n0_; have Q2 := n1_; have GW209 := n2_; have GE209 := n3_; clear n0_ n1_ n2_ n3_; clear hb hbox hg; obtain ⟨_, _, _, _, _, _, _, _, _, _⟩ := qqz Q2.out; obtain ⟨_, _, _, _, _, _, _, _, _, _⟩ := qqx Q2.out) | ((with_reducible refine qqo (f := 34) rfl ?_); refine goesL_ (some 10) rfl rfl Tryd.func34 (by kernel_rfl) rfl #[.agg #[.int .i64 a0_0, .int .i64 a0_1, .int .i64 a0_2, .int .i64 a0_3, .int .i64 a0_4, .int .i64 a0_5, .int .i64 a0_6, .int .i64 a0_7, .int .i64 a0_8, .int .i64 a0_9]] rfl (by (try simp only [List.map_toArray, List.map_cons, List.map_nil]); first | done | rfl | (simp only [List.length_drop, List.length_take]; rfl)) ?_; (with_reducible refine (wayfinderref05_May.calls k a0_0 a0_1 a0_2 a0_3 a0_4 a0_5 a0_6 a0_7 a0_8 a0_9 false _ A2.out).mono ?_); rintro e w37 ⟨rfl, hb⟩; refine ⟨_, rfl, ?_⟩; replace Q2 := bbl Q2 hb; replace HB := bst HB hb; (try clear hb)))
  go_ret2
  exact ⟨_, by first | rfl | (simp [qqk, qqj] <;> rfl) | (simp [*, qqk, qqj] <;> rfl), by first | exact Kd.R_nil _ _ _ _ _ | exact Kd.N_nil _ _ _ _ _ | exact Kd.V_nil _ _ _ _ _ | exact Kd.Q_nil _ _ _ _ _ | exact Kd.S_nil _ _ _ _ _, by repeat (first | (with_reducible first | exact HB.out | apply qqc | apply qqa | apply qqb | refine qqg ?_ GE209.out) | exact HB.out)⟩
mutual
def wayfinderref02_Sum.l0 : Nat → List Int → Int → Int → Option (Int)
 | 0, _, _, _ => none
 | k + 1, x0, x3, x4 => if x4 < (x0.length : Int) then (if (Int.tmod x4 2) = 0 then (if 0 ≤ x4 then (wayfinderref02_Sum.l0 k x0 (wrap64 (x3 + (wrap64 (256 * (wrap64 (rd x0 x4)))))) (wrap64 (x4 + 1))) else (none)) else (if 0 ≤ x4 then (wayfinderref02_Sum.l0 k x0 (wrap64 (x3 + (wrap64 (rd x0 x4)))) (wrap64 (x4 + 1))) else (none))) else (wayfinderref02_Sum.l1 k x3)
def wayfinderref02_Sum.l1 : Nat → Int → Option (Int)
 | 0, _ => none
 | k + 1, x3 => if x3 > 65535 then (wayfinderref02_Sum.l1 k (wrap64 ((wrap64 (Int.tdiv x3 65536)) + (Int.tmod x3 65536)))) else (some (wrap64 (65535 - x3)))
end
def wayfinderref02_Sum.f (k : Nat) (l0 : List Int) : Option (Int) := wayfinderref02_Sum.l0 k l0 0 0
theorem wayfinderref02_Sum.mono_l : ∀ k, (∀ y0 y1 y2, LeO (wayfinderref02_Sum.l0 k y0 y1 y2) (wayfinderref02_Sum.l0 (k + 1) y0 y1 y2)) ∧ (∀ y0, LeO (wayfinderref02_Sum.l1 k y0) (wayfinderref02_Sum.l1 (k + 1) y0))
 | 0 => ⟨fun _ _ _ r h => by simp [wayfinderref02_Sum.l0] at h, fun _ r h => by simp [wayfinderref02_Sum.l1] at h⟩
 | k + 1 => by
  obtain ⟨ih0, ih1⟩ := wayfinderref02_Sum.mono_l k
  refine ⟨?_, ?_⟩
  ·intro y0 y1 y2
   unfold wayfinderref02_Sum.l0
   repeat' first
   | (with_reducible exact ih0 _ _ _)
   | (with_reducible exact ih1 _)
   | (with_reducible exact LeO.refl _)
   | (with_reducible exact LeO.none _)
   | (with_reducible refine LeO.ite ?_ ?_)
   | (with_reducible refine LeO.bind ?_ (fun _ => ?_))
   | exact ih0 _ _ _
   | exact ih1 _
   | exact LeO.none _
   | refine LeO.ite ?_ ?_
   | refine LeO.bind ?_ (fun _ => ?_)
  ·intro y0
   unfold wayfinderref02_Sum.l1
   repeat' first
   | (with_reducible exact ih0 _ _ _)
   | (with_reducible exact ih1 _)
   | (with_reducible exact LeO.refl _)
   | (with_reducible exact LeO.none _)
   | (with_reducible refine LeO.ite ?_ ?_)
   | (with_reducible refine LeO.bind ?_ (fun _ => ?_))
   | exact ih0 _ _ _
   | exact ih1 _
   | exact LeO.none _
   | refine LeO.ite ?_ ?_
   | refine LeO.bind ?_ (fun _ => ?_)
theorem wayfinderref02_Sum.mono : ∀ a0 k, LeO (wayfinderref02_Sum.f k a0) (wayfinderref02_Sum.f (k + 1) a0) := by
 intro a0 k
 obtain ⟨ih0, ih1⟩ := wayfinderref02_Sum.mono_l k
 unfold wayfinderref02_Sum.f
 repeat' first
   | (with_reducible exact ih0 _ _ _)
   | (with_reducible exact ih1 _)
   | (with_reducible exact LeO.refl _)
   | (with_reducible exact LeO.none _)
   | (with_reducible refine LeO.ite ?_ ?_)
   | (with_reducible refine LeO.bind ?_ (fun _ => ?_))
   | exact ih0 _ _ _
   | exact ih1 _
   | exact LeO.none _
   | refine LeO.ite ?_ ?_
   | refine LeO.bind ?_ (fun _ => ?_)
set_option maxHeartbeats 8000000 in
set_option maxRecDepth 100000 in
theorem wayfinderref02_Sum.calls (k : Nat) (A0 : Option Addr) (c0 : Nat) (l0 : List Int) (r : Int) (w : World) (hr0 : Kd.C (Kd.int .u8) w A0 l0.length l0) (hc0 : l0.length ≤ c0) (h : wayfinderref02_Sum.f k l0 = some r) :
  Calls Tryd.prog 19 #[.slice A0 l0.length c0] w fun e w' => e = .returned (.int .i64 r) ∧ Drawn0 w w' := by
 have HR0 := Aside0.mk hr0
 have HC0 := Aside0.mk hc0
 clear hr0 hc0
 have H : (wayfinderref02_Sum.l0 k l0 0 0) = some r := h
 clear h
 have H' := Aside0.mk H
 clear H
 go_enter Tryd.func19, Tryd.ntmps19
 go_wp2
 go_loopg [3, 4] k (fun kq v3 v4 w' => ∃ (x3_1 : Int) (Qe : Int), v3 = .int .i64 x3_1 ∧ v4 = .int .i64 Qe ∧ Aside0 (wayfinderref02_Sum.l0 kq l0 x3_1 Qe = some r) ∧ Aside0 (kq ≤ k) ∧ Drawn0 w w')
 case atStart => exact ⟨(0), (0), (by first | rfl | (simp; done) | (simp [*]; done)), (by first | rfl | (simp; done) | (simp [*]; done)), H', ⟨Nat.le_refl _⟩, by repeat (first | exact Drawn0.refl _ | apply Drawn0.step)⟩
 case round =>
  clear H'
  try clear c1
  obtain ⟨x3_1, Qe, rfl, rfl, HA, HK1, ⟨m1, rfl⟩⟩ := hrel
  cases gk with
  | zero => exact absurd HA.out (by simp [wayfinderref02_Sum.l0])
  | succ k1 =>
   have H := HA.out
   clear HA
   simp only [wayfinderref02_Sum.l0] at H
   by_cases c2 : Qe < (l0.length : Int)
   ·rw [if_pos c2] at H
    have c2b0 : decide (Qe < (l0.length : Int)) = true := decide_eq_true c2
    clear c2
    by_cases c3 : (Int.tmod Qe 2) = 0
    ·rw [if_pos c3] at H
     have c3b0 : ((Int.tmod Qe 2) == 0) = true := beq_iff_eq.mpr c3
     have c3b1 : ((Int.tmod Qe 2) != 0) = false := bne_eq_false_iff_eq.mpr c3
     clear c3
     by_cases c4 : 0 ≤ Qe
     ·rw [if_pos c4] at H
      have c4b0 : decide (0 ≤ Qe) = true := decide_eq_true c4
      clear c4
      have H' := Aside0.mk H
      clear H
      have p228 : 0 ≤ (Qe : Int) := of_decide_eq_true (by first | (with_reducible assumption) | assumption)
      have q228 : Qe < (l0.length : Int) := of_decide_eq_true (by first | (with_reducible assumption) | assumption)
      obtain ⟨ad228, e228, hx228_0⟩ := Kd.at_int HR0.out Qe p228 q228
      cases e228
      replace p228 := eq_true p228
      replace q228 := eq_true q228
      go_wp2
      go_roundg k1
      case measure => have := HK1.out; omega
      case rel => exact ⟨(wrap64 (x3_1 + (wrap64 (256 * (wrap64 (rd l0 Qe)))))), (wrap64 (Qe + 1)), (by first | rfl | (simp; done) | (simp [*]; done)), (by first | rfl | (simp; done) | (simp [*]; done)), H', ⟨by have := HK1.out; omega⟩, by repeat (first | exact Drawn0.refl _ | apply Drawn0.step)⟩
     ·rw [if_neg c4] at H
      exact absurd H (by simp)
    ·rw [if_neg c3] at H
     have c3b0 : ((Int.tmod Qe 2) == 0) = false := beq_eq_false_iff_ne.mpr c3
     have c3b1 : ((Int.tmod Qe 2) != 0) = true := bne_iff_ne.mpr c3
     by_cases c5 : 0 ≤ Qe
     ·rw [if_pos c5] at H
      have c5b0 : decide (0 ≤ Qe) = true := decide_eq_true c5
      clear c5
      have H' := Aside0.mk H
      clear H
      have p229 : 0 ≤ (Qe : Int) := of_decide_eq_true (by first | (with_reducible assumption) | assumption)
      have q229 : Qe < (l0.length : Int) := of_decide_eq_true (by first | (with_reducible assumption) | assumption)
      obtain ⟨ad229, e229, hx229_0⟩ := Kd.at_int HR0.out Qe p229 q229
      cases e229
      replace p229 := eq_true p229
      replace q229 := eq_true q229
      go_wp2
      go_roundg k1
      case measure => have := HK1.out; omega
      case rel => exact ⟨(wrap64 (x3_1 + (wrap64 (rd l0 Qe)))), (wrap64 (Qe + 1)), (by first | rfl | (simp; done) | (simp [*]; done)), (by first | rfl | (simp; done) | (simp [*]; done)), H', ⟨by have := HK1.out; omega⟩, by repeat (first | exact Drawn0.refl _ | apply Drawn0.step)⟩
     ·rw [if_neg c5] at H
      exact absurd H (by simp)
   ·rw [if_neg c2] at H
    have c2b0 : decide (Qe < (l0.length : Int)) = false := decide_eq_false c2
    clear c2
    have H' := Aside0.mk H
    clear H
    go_wp2
    go_loopg [3] k1 (fun kq v3 w' => ∃ (x3_2 : Int), v3 = .int .i64 x3_2 ∧ Aside0 (wayfinderref02_Sum.l1 kq x3_2 = some r) ∧ Aside0 (kq ≤ k1) ∧ Drawn0 w w')
    case atStart => exact ⟨(x3_1), (by first | rfl | (simp; done) | (simp [*]; done)), H', ⟨Nat.le_refl _⟩, by repeat (first | exact Drawn0.refl _ | apply Drawn0.step)⟩
    case round =>
     clear H'
     try clear c1
     try clear c2
     try clear c2b0
     try clear p2
     try clear q2
     try clear hx2
     try clear c3
     try clear c3b0
     try clear c3b1
     try clear c4
     try clear c4b0
     try clear c5
     try clear c5b0
     try clear hx228_0
     try clear hx229_0
     try clear p228
     try clear p229
     try clear q228
     try clear q229
     obtain ⟨x3_2, rfl, HA, HK2, ⟨m2, rfl⟩⟩ := hrel
     cases gk with
     | zero => exact absurd HA.out (by simp [wayfinderref02_Sum.l1])
     | succ k2 =>
      have H := HA.out
      clear HA
      simp only [wayfinderref02_Sum.l1] at H
      by_cases c6 : x3_2 > 65535
      ·rw [if_pos c6] at H
       have c6b0 : decide (65535 < x3_2) = true := decide_eq_true c6
       clear c6
       have H' := Aside0.mk H
       clear H
       go_wp2
       go_roundg k2
       case measure => have := HK1.out; have := HK2.out; omega
       case rel => exact ⟨(wrap64 ((wrap64 (Int.tdiv x3_2 65536)) + (Int.tmod x3_2 65536))), (by first | rfl | (simp; done) | (simp [*]; done)), H', ⟨by have := HK1.out; have := HK2.out; omega⟩, by repeat (first | exact Drawn0.refl _ | apply Drawn0.step)⟩
      ·rw [if_neg c6] at H
       have c6b0 : decide (65535 < x3_2) = false := decide_eq_false c6
       clear c6
       obtain rfl := Option.some.inj H
       go_wp2
       go_ret
       exact ⟨by first | rfl | (simp; done) | (simp [*]; done), by repeat (first | exact Drawn0.refl _ | apply Drawn0.step)⟩
def wayfinderref06_Seal.f (k : Nat) (a0_0 : Int) (a0_1 : Int) (a0_2 : Int) (a0_3 : Int) (a0_4 : Int) (a0_5 : Int) (a0_6 : Int) (a0_7 : Int) (a0_8 : Int) (a0_9 : Int) : Option (List Int × Int) := (wayfinderref05_Put.f k a0_0 a0_1 a0_2 a0_3 a0_4 a0_5 a0_6 a0_7 a0_8 a0_9).bind fun Qh => (if Qh.2 = 0 then ((some (([197, ((Qh.1.length : Int)) % 256] : List Int) : List Int)).bind fun Qn => (if Qn.length + Qh.1.length < 140737488355328 then ((some (Qn ++ Qh.1 : List Int)).bind fun Q4 => (if ((Qh.1.length : Int) % 2) = 1 then (if Q4.length < 140737488355328 then ((some (Q4 ++ [0] : List Int)).bind fun Q8 => ((wayfinderref02_Sum.f k Q8).bind fun Qk => ((wayfinderref02_Put.f k Qk 2).bind fun Qb => (if Q8.length + Qb.1.length < 140737488355328 then (some ((Q8 ++ Qb.1), 0)) else (none))))) else (none)) else ((wayfinderref02_Sum.f k Q4).bind fun Qo => ((wayfinderref02_Put.f k Qo 2).bind fun Qd => (if Q4.length + Qd.1.length < 140737488355328 then (some ((Q4 ++ Qd.1), 0)) else (none)))))) else (none))) else (some (([] : List Int), Qh.2)))
theorem wayfinderref06_Seal.mono : ∀ a0 a1 a2 a3 a4 a5 a6 a7 a8 a9 k, LeO (wayfinderref06_Seal.f k a0 a1 a2 a3 a4 a5 a6 a7 a8 a9) (wayfinderref06_Seal.f (k + 1) a0 a1 a2 a3 a4 a5 a6 a7 a8 a9) := by
 intro a0 a1 a2 a3 a4 a5 a6 a7 a8 a9 k
 unfold wayfinderref06_Seal.f
 repeat' first
   | (with_reducible exact wayfinderref02_Put.mono _ _ _)
   | (with_reducible exact wayfinderref02_Sum.mono _ _)
   | (with_reducible exact wayfinderref05_Put.mono _ _ _ _ _ _ _ _ _ _ _)
   | (with_reducible exact LeO.refl _)
   | (with_reducible exact LeO.none _)
   | (with_reducible refine LeO.ite ?_ ?_)
   | (with_reducible refine LeO.bind ?_ (fun _ => ?_))
   | exact wayfinderref02_Put.mono _ _ _
   | exact wayfinderref02_Sum.mono _ _
   | exact wayfinderref05_Put.mono _ _ _ _ _ _ _ _ _ _ _
   | exact LeO.none _
   | refine LeO.ite ?_ ?_
   | refine LeO.bind ?_ (fun _ => ?_)
set_option maxHeartbeats 8000000 in
set_option maxRecDepth 100000 in
theorem wayfinderref06_Seal.calls (k : Nat) (a0_0 : Int) (a0_1 : Int) (a0_2 : Int) (a0_3 : Int) (a0_4 : Int) (a0_5 : Int) (a0_6 : Int) (a0_7 : Int) (a0_8 : Int) (a0_9 : Int) (r1 : List Int) (r2 : Int) (w : World) (h : wayfinderref06_Seal.f k a0_0 a0_1 a0_2 a0_3 a0_4 a0_5 a0_6 a0_7 a0_8 a0_9 = some (r1, r2)) :
  Calls Tryd.prog 11 #[.agg #[.int .i64 a0_0, .int .i64 a0_1, .int .i64 a0_2, .int .i64 a0_3, .int .i64 a0_4, .int .i64 a0_5, .int .i64 a0_6, .int .i64 a0_7, .int .i64 a0_8, .int .i64 a0_9]] w fun e w' => ∃ v0_ : Value, e = .returned (.tuple #[v0_, .int .i64 r2]) ∧ Kd.R (Kd.int .u8) 5 w' w.heap.size (fun _ => True) v0_ r1 ∧ Below w.heap.size w w' := by
 have hu29 := Tryd.underlying29
 have HB := Aside0.mk (Below.refl w.heap.size w)
 have H : ((wayfinderref05_Put.f k a0_0 a0_1 a0_2 a0_3 a0_4 a0_5 a0_6 a0_7 a0_8 a0_9).bind fun Qh => (if Qh.2 = 0 then ((some (([197, ((Qh.1.length : Int)) % 256] : List Int) : List Int)).bind fun Qn => (if Qn.length + Qh.1.length < 140737488355328 then ((some (Qn ++ Qh.1 : List Int)).bind fun Q4 => (if ((Qh.1.length : Int) % 2) = 1 then (if Q4.length < 140737488355328 then ((some (Q4 ++ [0] : List Int)).bind fun Q8 => ((wayfinderref02_Sum.f k Q8).bind fun Qk => ((wayfinderref02_Put.f k Qk 2).bind fun Qb => (if Q8.length + Qb.1.length < 140737488355328 then (some ((Q8 ++ Qb.1), 0)) else (none))))) else (none)) else ((wayfinderref02_Sum.f k Q4).bind fun Qo => ((wayfinderref02_Put.f k Qo 2).bind fun Qd => (if Q4.length + Qd.1.length < 140737488355328 then (some ((Q4 ++ Qd.1), 0)) else (none)))))) else (none))) else (some (([] : List Int), Qh.2)))) = some (r1, r2) := h
 clear h
 replace H := Option.bind_eq_some_iff.mp H
 obtain ⟨⟨Q6, t234⟩, A20, H⟩ := H
 replace H : (if t234 = 0 then ((some (([197, ((Q6.length : Int)) % 256] : List Int) : List Int)).bind fun Qn => (if Qn.length + Q6.length < 140737488355328 then ((some (Qn ++ Q6 : List Int)).bind fun Q4 => (if ((Q6.length : Int) % 2) = 1 then (if Q4.length < 140737488355328 then ((some (Q4 ++ [0] : List Int)).bind fun Q8 => ((wayfinderref02_Sum.f k Q8).bind fun Qk => ((wayfinderref02_Put.f k Qk 2).bind fun Qb => (if Q8.length + Qb.1.length < 140737488355328 then (some ((Q8 ++ Qb.1), 0)) else (none))))) else (none)) else ((wayfinderref02_Sum.f k Q4).bind fun Qo => ((wayfinderref02_Put.f k Qo 2).bind fun Qd => (if Q4.length + Qd.1.length < 140737488355328 then (some ((Q4 ++ Qd.1), 0)) else (none)))))) else (none))) else (some (([] : List Int), t234))) = some (r1, r2) := H
 have A2 := Aside0.mk A20
 clear A20
 by_cases c3 : t234 = 0
 ·rw [if_pos c3] at H
  have c3b0 : (t234 == 0) = true := beq_iff_eq.mpr c3
  have c3b1 : (t234 != 0) = false := bne_eq_false_iff_eq.mpr c3
  clear c3
  obtain ⟨Qn, hy235⟩ : ∃ y_ : List Int, y_ = (([197, ((Q6.length : Int)) % 256] : List Int)) := ⟨_, rfl⟩
  replace H : (if Qn.length + Q6.length < 140737488355328 then ((some (Qn ++ Q6 : List Int)).bind fun Q4 => (if ((Q6.length : Int) % 2) = 1 then (if Q4.length < 140737488355328 then ((some (Q4 ++ [0] : List Int)).bind fun Q8 => ((wayfinderref02_Sum.f k Q8).bind fun Qk => ((wayfinderref02_Put.f k Qk 2).bind fun Qb => (if Q8.length + Qb.1.length < 140737488355328 then (some ((Q8 ++ Qb.1), 0)) else (none))))) else (none)) else ((wayfinderref02_Sum.f k Q4).bind fun Qo => ((wayfinderref02_Put.f k Qo 2).bind fun Qd => (if Q4.length + Qd.1.length < 140737488355328 then (some ((Q4 ++ Qd.1), 0)) else (none)))))) else (none)) = some (r1, r2) := by first | (rw [hy235]; with_reducible exact H) | (have H2_ := (Option.bind_some _ _).symm.trans H; rw [hy235]; with_reducible exact H2_) | (have H2_ := (Option.bind_some _ _).symm.trans H; with_reducible exact H2_) | with_reducible exact H | (rw [hy235]; exact H) | exact H
  have Ny235 := Aside0.mk hy235
  clear hy235
  by_cases c4 : Qn.length + Q6.length < 140737488355328
  ·rw [if_pos c4] at H
   have LMc4 := Aside0.mk c4
   clear c4
   obtain ⟨Q4, hy238⟩ : ∃ y_ : List Int, y_ = (Qn ++ Q6) := ⟨_, rfl⟩
   replace H : (if ((Q6.length : Int) % 2) = 1 then (if Q4.length < 140737488355328 then ((some (Q4 ++ [0] : List Int)).bind fun Q8 => ((wayfinderref02_Sum.f k Q8).bind fun Qk => ((wayfinderref02_Put.f k Qk 2).bind fun Qb => (if Q8.length + Qb.1.length < 140737488355328 then (some ((Q8 ++ Qb.1), 0)) else (none))))) else (none)) else ((wayfinderref02_Sum.f k Q4).bind fun Qo => ((wayfinderref02_Put.f k Qo 2).bind fun Qd => (if Q4.length + Qd.1.length < 140737488355328 then (some ((Q4 ++ Qd.1), 0)) else (none))))) = some (r1, r2) := by first | (rw [hy238]; with_reducible exact H) | (have H2_ := (Option.bind_some _ _).symm.trans H; rw [hy238]; with_reducible exact H2_) | (have H2_ := (Option.bind_some _ _).symm.trans H; with_reducible exact H2_) | with_reducible exact H | (rw [hy238]; exact H) | exact H
   have Ny238 := Aside0.mk hy238
   clear hy238
   by_cases c5 : ((Q6.length : Int) % 2) = 1
   ·rw [if_pos c5] at H
    have c5b0 : (((Q6.length : Int) % 2) == 1) = true := beq_iff_eq.mpr c5
    have c5b1 : (((Q6.length : Int) % 2) != 1) = false := bne_eq_false_iff_eq.mpr c5
    clear c5
    by_cases c6 : Q4.length < 140737488355328
    ·rw [if_pos c6] at H
     have LMc6 := Aside0.mk c6
     clear c6
     obtain ⟨Q8, hy241⟩ : ∃ y_ : List Int, y_ = (Q4 ++ [0]) := ⟨_, rfl⟩
     replace H : ((wayfinderref02_Sum.f k Q8).bind fun Qk => ((wayfinderref02_Put.f k Qk 2).bind fun Qb => (if Q8.length + Qb.1.length < 140737488355328 then (some ((Q8 ++ Qb.1), 0)) else (none)))) = some (r1, r2) := by first | (rw [hy241]; with_reducible exact H) | (have H2_ := (Option.bind_some _ _).symm.trans H; rw [hy241]; with_reducible exact H2_) | (have H2_ := (Option.bind_some _ _).symm.trans H; with_reducible exact H2_) | with_reducible exact H | (rw [hy241]; exact H) | exact H
     have Ny241 := Aside0.mk hy241
     clear hy241
     replace H := Option.bind_eq_some_iff.mp H
     obtain ⟨Qk, A70, H⟩ := H
     replace H : ((wayfinderref02_Put.f k Qk 2).bind fun Qb => (if Q8.length + Qb.1.length < 140737488355328 then (some ((Q8 ++ Qb.1), 0)) else (none))) = some (r1, r2) := H
     have A7 := Aside0.mk A70
     clear A70
     replace H := Option.bind_eq_some_iff.mp H
     obtain ⟨⟨t245, t246⟩, A80, H⟩ := H
     replace H : (if Q8.length + t245.length < 140737488355328 then (some ((Q8 ++ t245), 0)) else (none)) = some (r1, r2) := H
     have A8 := Aside0.mk A80
     clear A80
     by_cases c9 : Q8.length + t245.length < 140737488355328
     ·rw [if_pos c9] at H
      have LMc9 := Aside0.mk c9
      clear c9
      obtain ⟨y249, hy249⟩ : ∃ y_ : List Int, y_ = (Q8 ++ t245) := ⟨_, rfl⟩
      replace H : (some (y249, 0)) = some (r1, r2) := by first | (rw [hy249]; with_reducible exact H) | (have H2_ := (Option.bind_some _ _).symm.trans H; rw [hy249]; with_reducible exact H2_) | (have H2_ := (Option.bind_some _ _).symm.trans H; with_reducible exact H2_) | with_reducible exact H | (rw [hy249]; exact H) | exact H
      have Ny249 := Aside0.mk hy249
      clear hy249
      simp only [Option.some.injEq, Prod.mk.injEq] at H
      obtain ⟨rfl, rfl⟩ := H
      go_enter Tryd.func11, Tryd.ntmps11
      go_wp2_with (first | ((with_reducible refine qqr (N := 1) rfl ?_); refine qqw ?hg (N := 1) ?hd (cs := #[.int .i64 a0_0, .int .i64 a0_1, .int .i64 a0_2, .int .i64 a0_3, .int .i64 a0_4, .int .i64 a0_5, .int .i64 a0_6, .int .i64 a0_7, .int .i64 a0_8, .int .i64 a0_9]) (t := 29) ?hr ?_; (case hd => rfl); (case hg => rfl); (case hr => first | (go_simp; done) | (go_simp; rfl)); intro Qp hg w10 hbox hb; have n0_ := bst HB hb; have n1_ := Aside0.mk (hbox); have n2_ := szl HB hg; have n3_ := szl HB hg; clear HB; have HB := n0_; have Q0 := n1_; have GW230 := n2_; have GE230 := n3_; clear n0_ n1_ n2_ n3_; clear hb hbox hg; obtain ⟨hcz11_0, hcz11_1, hcz11_2, hcz11_3, hcz11_4, hcz11_5, hcz11_6, hcz11_7, hcz11_8, hcz11_9⟩ := qqz Q0.out; obtain ⟨hfz11_0, hfz11_1, hfz11_2, hfz11_3, hfz11_4, hfz11_5, hfz11_6, hfz11_7, hfz11_8, hfz11_9⟩ := qqx Q0.out) | ((with_reducible refine qqo (f := 17) rfl ?_); refine goesL_ (some 11) rfl rfl Tryd.func17 (by kernel_rfl) rfl #[.agg #[.int .i64 a0_0, .int .i64 a0_1, .int .i64 a0_2, .int .i64 a0_3, .int .i64 a0_4, .int .i64 a0_5, .int .i64 a0_6, .int .i64 a0_7, .int .i64 a0_8, .int .i64 a0_9]] rfl (by (try simp only [List.map_toArray, List.map_cons, List.map_nil]); first | done | rfl | (simp only [List.length_drop, List.length_take]; rfl)) ?_; (with_reducible refine (wayfinderref05_Put.calls k a0_0 a0_1 a0_2 a0_3 a0_4 a0_5 a0_6 a0_7 a0_8 a0_9 Q6 t234 _ A2.out).mono ?_); rintro e w12 ⟨v232, rfl, ho0, hb⟩; refine ⟨_, rfl, ?_⟩; have Q3 := Aside0.mk (Kd.R_lower ho0 (qqt (by repeat (first | (with_reducible first | exact HB.out | apply qqc | apply qqa | apply qqb | refine qqg ?_ GE230.out) | exact HB.out)))); replace Q0 := bbl Q0 hb; replace HB := bst HB hb; (try clear hb); (try clear hk); (try clear ho0); obtain ⟨Ao13, co13, eo13⟩ := Kd.R_slice Q3.out; subst eo13) | ((with_reducible refine qqr (N := 20) rfl ?_); refine Kd.R_lit (Kd.int .u8) _ 5 ?hg (N := 20) ?hd (xs := ([197, ((Q6.length : Int)) % 256] : List Int)) (inner := [.int .u8 197, .int .u8 (((Q6.length : Int)) % 256)]) (ok := fun _ => True) (okp := fun _ => True) ?hr ?hp (fun _ hk => hk) trivial (Below.refl _ _) (Nat.le_refl _) (by simp) ?_; (case hd => rfl); (case hg => rfl); (case hr => first | (go_simp; done) | (go_simp; rfl)); (case hp => exact (Reps.one (show Kd.M (Kd.int .u8) _ _ _ 197 [.int .u8 197] from rfl) (Reps.one (show Kd.M (Kd.int .u8) _ _ _ (((Q6.length : Int)) % 256) [.int .u8 (((Q6.length : Int)) % 256)] from rfl) (Reps.none _ _)))); intro v236 w14 ho15 hb hg_ hnew_; clear hg_ hnew_; (first | rw [← Ny235.out] at ho15 | (simp only [Int.reduceToNat] at ho15; rw [← Ny235.out] at ho15)); have n0_ := Aside0.mk (Kd.R_elder' (by (with_reducible repeat (first | apply Kd.R_alloc | apply Kd.R_drewN | apply Kd.R_drew)); exact Q3.out) (Kd.R_base ho15) hb); have n1_ := Aside0.mk (Kd.R_lower (Kd.R_new' ho15 (Kd.R_lt (by (with_reducible repeat (first | apply Kd.R_alloc | apply Kd.R_drewN | apply Kd.R_drew)); exact Q3.out))) (qqt (by repeat (first | (with_reducible first | exact HB.out | apply qqc | apply qqa | apply qqb | refine qqg ?_ GE230.out) | exact HB.out)))); have n2_ := bbl Q0 hb; have n3_ := bst HB hb; clear Q3; clear Q0; clear HB; have Q3 := n0_; have Qq := n1_; have Q0 := n2_; have HB := n3_; clear n0_ n1_ n2_ n3_; clear hb ho15) | ((with_reducible refine gate_builtin (b := .append) (xs := #[.tmp 21, .tmp 22]) rfl ?_); at_builtin; refine Kd.R_append_rows (Kd.int .u8) (w0 := w) w.heap.size rfl (.tmp 21) (.tmp 22) 31 5 (.int .u8 0) 1 rfl Tryd.underlying31 info5 rfl (by decide) (by omega) v236 Qn Q6 _ _ _ (fun k_ => some k_ ≠ (.slice Ao13 Q6.length co13 : Value).ownBlock) (fun _ => False) rfl rfl ?aO ?aR (fun _ _ h => h) (fun _ h => h.elim) ?aF ?aB ?aS ?aL ?_; (case aR => repeat (first | exact (Kd.R_reads' Q3.out).2.2 | (with_reducible refine Kd.C_alloc ?_ _) | (with_reducible refine Kd.C_drewN ?_ _) | (with_reducible refine Kd.C_drew ?_))); (case aB => exact (by repeat (first | (with_reducible first | exact HB.out | apply qqc | apply qqa | apply qqb | refine qqg ?_ GE230.out) | exact HB.out))); (case aF => exact (fun k_ hk => Kd.fresh' (Kd.R_lt (by (with_reducible repeat (first | apply Kd.R_alloc | apply Kd.R_drewN | apply Kd.R_drew)); exact Q3.out)) k_ hk)); (case aO => exact (by (with_reducible repeat (first | apply Kd.R_alloc | apply Kd.R_drewN | apply Kd.R_drew)); exact Kd.R_mono Qq.out (fun _ hk => hk.2))); (case aS => exact (qqt (by repeat (first | (with_reducible first | exact HB.out | apply qqc | apply qqa | apply qqb | refine qqg ?_ GE230.out) | exact HB.out)))); (case aL => have := LMc4.out; omega); intro v239 w16 ho hb hg hat; rw [← Ny238.out] at ho; have n0_ := Aside0.mk (blk_grown (g := Qp) (o := .cells #[.int .i64 a0_0, .int .i64 a0_1, .int .i64 a0_2, .int .i64 a0_3, .int .i64 a0_4, .int .i64 a0_5, .int .i64 a0_6, .int .i64 a0_7, .int .i64 a0_8, .int .i64 a0_9] 29 (0, 0)) (by (with_reducible repeat (first | refine qqd ?_ _ | refine qqf ?_ | refine qqe ?_ _)); exact Q0.out) hg (Kd.R_ne Qq.out Q0.out (by decide))); have n1_ := Aside0.mk (Kd.R_after (ok := (fun _ => True)) (by (with_reducible repeat (first | apply Kd.R_alloc | apply Kd.R_drewN | apply Kd.R_drew)); exact Q3.out) hg hat); have n2_ := Aside0.mk (hb); have n3_ := Aside0.mk (ho); clear Q0; clear Q3; clear HB; clear Qq; have Q0 := n0_; have Q3 := n1_; have HB := n2_; have Qg := n3_; clear n0_ n1_ n2_ n3_; clear ho hb hg hat) | ((with_reducible refine gate_builtin (b := .append) (xs := #[.tmp 28, .tmp 29]) rfl ?_); at_builtin; refine Kd.R_append (Kd.int .u8) (w0 := w) w.heap.size rfl (.tmp 28) (.tmp 29) 31 5 (.int .u8 0) 1 rfl Tryd.underlying31 info5 rfl (by decide) (by omega) v239 Q4 0 [.int .u8 0] (fun k_ => some k_ ≠ (.slice Ao13 Q6.length co13 : Value).ownBlock) (fun _ => False) rfl rfl ?aP (fun _ hk => hk.elim) ?aF ?aO ?aB ?aS ?aL ?_; (case aP => exact rfl); (case aB => exact (by repeat (first | (with_reducible first | exact HB.out | apply qqc | apply qqa | apply qqb | refine qqg ?_ GE230.out) | exact HB.out))); (case aF => exact (fun k_ hk => Kd.fresh' (Kd.R_lt (by (with_reducible repeat (first | apply Kd.R_alloc | apply Kd.R_drewN | apply Kd.R_drew)); exact Q3.out)) k_ hk)); (case aO => exact (by (with_reducible repeat (first | apply Kd.R_alloc | apply Kd.R_drewN | apply Kd.R_drew)); exact Qg.out)); (case aS => exact (qqt (by repeat (first | (with_reducible first | exact HB.out | apply qqc | apply qqa | apply qqb | refine qqg ?_ GE230.out) | exact HB.out)))); (case aL => have := LMc6.out; omega); intro v242 w17 ho hb hg hat; rw [← Ny241.out] at ho; have n0_ := Aside0.mk (blk_grown (g := Qp) (o := .cells #[.int .i64 a0_0, .int .i64 a0_1, .int .i64 a0_2, .int .i64 a0_3, .int .i64 a0_4, .int .i64 a0_5, .int .i64 a0_6, .int .i64 a0_7, .int .i64 a0_8, .int .i64 a0_9] 29 (0, 0)) (by (with_reducible repeat (first | refine qqd ?_ _ | refine qqf ?_ | refine qqe ?_ _)); exact Q0.out) hg (Kd.R_ne Qg.out Q0.out (by decide))); have n1_ := Aside0.mk (Kd.R_after (ok := (fun _ => True)) (by (with_reducible repeat (first | apply Kd.R_alloc | apply Kd.R_drewN | apply Kd.R_drew)); exact Q3.out) hg hat); have n2_ := Aside0.mk (hb); have n3_ := Aside0.mk (ho); clear Q0; clear Q3; clear HB; clear Qg; have Q0 := n0_; have Q3 := n1_; have HB := n2_; have Qm := n3_; clear n0_ n1_ n2_ n3_; clear ho hb hg hat; obtain ⟨Ao18, co18, eo18⟩ := Kd.R_slice Qm.out; subst eo18) | ((with_reducible refine qqo (f := 19) rfl ?_); refine goesL_ (some 33) rfl rfl Tryd.func19 (by kernel_rfl) rfl #[.slice Ao18 Q8.length co18] rfl (by (try simp only [List.map_toArray, List.map_cons, List.map_nil]); first | done | rfl | (simp only [List.length_drop, List.length_take]; rfl)) ?_; (with_reducible refine (wayfinderref02_Sum.calls k _ _ Q8 Qk _ ?side1 ?side2 A7.out).mono ?_); (case side1 => repeat (first | exact (Kd.R_reads' Qm.out).2.2 | (with_reducible refine Kd.C_alloc ?_ _) | (with_reducible refine Kd.C_drewN ?_ _) | (with_reducible refine Kd.C_drew ?_))); (case side2 => exact (Kd.R_reads' Qm.out).2.1); rintro e w' ⟨rfl, ⟨nd, rfl⟩⟩; refine ⟨_, rfl, ?_⟩) | ((with_reducible refine qqo (f := 18) rfl ?_); refine goesL_ (some 34) rfl rfl Tryd.func18 (by kernel_rfl) rfl #[.int .i64 Qk, .int .i64 2] rfl (by (try simp only [List.map_toArray, List.map_cons, List.map_nil]); first | done | rfl | (simp only [List.length_drop, List.length_take]; rfl)) ?_; (with_reducible refine (wayfinderref02_Put.calls k Qk 2 t245 t246 _ A8.out).mono ?_); rintro e w19 ⟨v247, rfl, ho0, hb⟩; refine ⟨_, rfl, ?_⟩; have n0_ := Aside0.mk (Kd.R_elder' (by (with_reducible repeat (first | apply Kd.R_alloc | apply Kd.R_drewN | apply Kd.R_drew)); exact Q3.out) (Kd.R_base ho0) hb); have n1_ := Aside0.mk (Kd.R_elder' (by (with_reducible repeat (first | apply Kd.R_alloc | apply Kd.R_drewN | apply Kd.R_drew)); exact Qm.out) (Kd.R_base ho0) hb); have n2_ := Aside0.mk (Kd.R_lower (Kd.R_new' (Kd.R_new' ho0 (Kd.R_lt (by (with_reducible repeat (first | apply Kd.R_alloc | apply Kd.R_drewN | apply Kd.R_drew)); exact Q3.out))) (Kd.R_lt (by (with_reducible repeat (first | apply Kd.R_alloc | apply Kd.R_drewN | apply Kd.R_drew)); exact Qm.out))) (qqt (by repeat (first | (with_reducible first | exact HB.out | apply qqc | apply qqa | apply qqb | refine qqg ?_ GE230.out) | exact HB.out)))); have n3_ := bbl Q0 hb; have n4_ := bst HB hb; clear Q3; clear Qm; clear Q0; clear HB; have Q3 := n0_; have Qm := n1_; have Qs := n2_; have Q0 := n3_; have HB := n4_; clear n0_ n1_ n2_ n3_ n4_; (try clear hb); (try clear hk); (try clear ho0); obtain ⟨Ao21, co21, eo21⟩ := Kd.R_slice Qs.out; subst eo21) | ((with_reducible refine gate_builtin (b := .append) (xs := #[.tmp 37, .tmp 38]) rfl ?_); at_builtin; refine Kd.R_append_rows (Kd.int .u8) (w0 := w) w.heap.size rfl (.tmp 37) (.tmp 38) 31 5 (.int .u8 0) 1 rfl Tryd.underlying31 info5 rfl (by decide) (by omega) (.slice Ao18 Q8.length co18) Q8 t245 _ _ _ (fun k_ => some k_ ≠ (.slice Ao13 Q6.length co13 : Value).ownBlock ∧ some k_ ≠ (.slice Ao21 t245.length co21 : Value).ownBlock) (fun _ => False) rfl rfl ?aO ?aR (fun _ _ h => h) (fun _ h => h.elim) ?aF ?aB ?aS ?aL ?_; (case aR => repeat (first | exact (Kd.R_reads' Qs.out).2.2 | (with_reducible refine Kd.C_alloc ?_ _) | (with_reducible refine Kd.C_drewN ?_ _) | (with_reducible refine Kd.C_drew ?_))); (case aB => exact (by repeat (first | (with_reducible first | exact HB.out | apply qqc | apply qqa | apply qqb | refine qqg ?_ GE230.out) | exact HB.out))); (case aF => exact (fun k_ hk => ⟨Kd.fresh' (Kd.R_lt (by (with_reducible repeat (first | apply Kd.R_alloc | apply Kd.R_drewN | apply Kd.R_drew)); exact Q3.out)) k_ hk, Kd.fresh' (Kd.R_lt (by (with_reducible repeat (first | apply Kd.R_alloc | apply Kd.R_drewN | apply Kd.R_drew)); exact Qs.out)) k_ hk⟩)); (case aO => exact (by (with_reducible repeat (first | apply Kd.R_alloc | apply Kd.R_drewN | apply Kd.R_drew)); exact Qm.out)); (case aS => exact (qqt (by repeat (first | (with_reducible first | exact HB.out | apply qqc | apply qqa | apply qqb | refine qqg ?_ GE230.out) | exact HB.out)))); (case aL => have := LMc9.out; omega); intro v250 w20 ho hb hg hat; rw [← Ny249.out] at ho; have n0_ := Aside0.mk (blk_grown (g := Qp) (o := .cells #[.int .i64 a0_0, .int .i64 a0_1, .int .i64 a0_2, .int .i64 a0_3, .int .i64 a0_4, .int .i64 a0_5, .int .i64 a0_6, .int .i64 a0_7, .int .i64 a0_8, .int .i64 a0_9] 29 (0, 0)) (by (with_reducible repeat (first | refine qqd ?_ _ | refine qqf ?_ | refine qqe ?_ _)); exact Q0.out) hg (Kd.R_ne Qm.out Q0.out (by decide))); have n1_ := Aside0.mk (Kd.R_after (ok := (fun k_ => some k_ ≠ (.slice Ao21 t245.length co21 : Value).ownBlock)) (by (with_reducible repeat (first | apply Kd.R_alloc | apply Kd.R_drewN | apply Kd.R_drew)); exact Kd.R_mono Q3.out (fun _ hk => ⟨hk.2, hk.1.2⟩)) hg hat); have n2_ := Aside0.mk (Kd.R_after (ok := (fun k_ => some k_ ≠ (.slice Ao13 Q6.length co13 : Value).ownBlock)) (by (with_reducible repeat (first | apply Kd.R_alloc | apply Kd.R_drewN | apply Kd.R_drew)); exact Kd.R_mono Qs.out (fun _ hk => ⟨hk.1.2, hk.2⟩)) hg hat); have n3_ := Aside0.mk (hb); have n4_ := Aside0.mk (ho); clear Q0; clear Q3; clear Qs; clear HB; clear Qm; have Q0 := n0_; have Q3 := n1_; have Qs := n2_; have HB := n3_; have HO251 := n4_; clear n0_ n1_ n2_ n3_ n4_; clear ho hb hg hat))
      go_ret2
      exact ⟨_, by first | rfl | (simp [qqk, qqj] <;> rfl) | (simp [*, qqk, qqj] <;> rfl), by (with_reducible repeat (first | apply Kd.R_alloc | apply Kd.R_drewN | apply Kd.R_drew)); exact Kd.R_mono HO251.out (fun _ hk => trivial), by repeat (first | (with_reducible first | exact HB.out | apply qqc | apply qqa | apply qqb | refine qqg ?_ GE230.out) | exact HB.out)⟩
     ·rw [if_neg c9] at H
      exact absurd H (by simp)
    ·rw [if_neg c6] at H
     exact absurd H (by simp)
   ·rw [if_neg c5] at H
    have c5b0 : (((Q6.length : Int) % 2) == 1) = false := beq_eq_false_iff_ne.mpr c5
    have c5b1 : (((Q6.length : Int) % 2) != 1) = true := bne_iff_ne.mpr c5
    replace H := Option.bind_eq_some_iff.mp H
    obtain ⟨Qo, A220, H⟩ := H
    replace H : ((wayfinderref02_Put.f k Qo 2).bind fun Qd => (if Q4.length + Qd.1.length < 140737488355328 then (some ((Q4 ++ Qd.1), 0)) else (none))) = some (r1, r2) := H
    have A22 := Aside0.mk A220
    clear A220
    replace H := Option.bind_eq_some_iff.mp H
    obtain ⟨⟨t253, t254⟩, A230, H⟩ := H
    replace H : (if Q4.length + t253.length < 140737488355328 then (some ((Q4 ++ t253), 0)) else (none)) = some (r1, r2) := H
    have A23 := Aside0.mk A230
    clear A230
    by_cases c24 : Q4.length + t253.length < 140737488355328
    ·rw [if_pos c24] at H
     have LMc24 := Aside0.mk c24
     clear c24
     obtain ⟨y257, hy257⟩ : ∃ y_ : List Int, y_ = (Q4 ++ t253) := ⟨_, rfl⟩
     replace H : (some (y257, 0)) = some (r1, r2) := by first | (rw [hy257]; with_reducible exact H) | (have H2_ := (Option.bind_some _ _).symm.trans H; rw [hy257]; with_reducible exact H2_) | (have H2_ := (Option.bind_some _ _).symm.trans H; with_reducible exact H2_) | with_reducible exact H | (rw [hy257]; exact H) | exact H
     have Ny257 := Aside0.mk hy257
     clear hy257
     simp only [Option.some.injEq, Prod.mk.injEq] at H
     obtain ⟨rfl, rfl⟩ := H
     go_enter Tryd.func11, Tryd.ntmps11
     go_wp2_with (first | ((with_reducible refine qqr (N := 1) rfl ?_); refine qqw ?hg (N := 1) ?hd (cs := #[.int .i64 a0_0, .int .i64 a0_1, .int .i64 a0_2, .int .i64 a0_3, .int .i64 a0_4, .int .i64 a0_5, .int .i64 a0_6, .int .i64 a0_7, .int .i64 a0_8, .int .i64 a0_9]) (t := 29) ?hr ?_; (case hd => rfl); (case hg => rfl); (case hr => first | (go_simp; done) | (go_simp; rfl)); intro Qp hg w25 hbox hb; have n0_ := bst HB hb; have n1_ := Aside0.mk (hbox); have n2_ := szl HB hg; have n3_ := szl HB hg; clear HB; have HB := n0_; have Q0 := n1_; have GW230 := n2_; have GE230 := n3_; clear n0_ n1_ n2_ n3_; clear hb hbox hg; obtain ⟨hcz26_0, hcz26_1, hcz26_2, hcz26_3, hcz26_4, hcz26_5, hcz26_6, hcz26_7, hcz26_8, hcz26_9⟩ := qqz Q0.out; obtain ⟨hfz26_0, hfz26_1, hfz26_2, hfz26_3, hfz26_4, hfz26_5, hfz26_6, hfz26_7, hfz26_8, hfz26_9⟩ := qqx Q0.out) | ((with_reducible refine qqo (f := 17) rfl ?_); refine goesL_ (some 11) rfl rfl Tryd.func17 (by kernel_rfl) rfl #[.agg #[.int .i64 a0_0, .int .i64 a0_1, .int .i64 a0_2, .int .i64 a0_3, .int .i64 a0_4, .int .i64 a0_5, .int .i64 a0_6, .int .i64 a0_7, .int .i64 a0_8, .int .i64 a0_9]] rfl (by (try simp only [List.map_toArray, List.map_cons, List.map_nil]); first | done | rfl | (simp only [List.length_drop, List.length_take]; rfl)) ?_; (with_reducible refine (wayfinderref05_Put.calls k a0_0 a0_1 a0_2 a0_3 a0_4 a0_5 a0_6 a0_7 a0_8 a0_9 Q6 t234 _ A2.out).mono ?_); rintro e w27 ⟨v232, rfl, ho0, hb⟩; refine ⟨_, rfl, ?_⟩; have Q3 := Aside0.mk (Kd.R_lower ho0 (qqt (by repeat (first | (with_reducible first | exact HB.out | apply qqc | apply qqa | apply qqb | refine qqg ?_ GE230.out) | exact HB.out)))); replace Q0 := bbl Q0 hb; replace HB := bst HB hb; (try clear hb); (try clear hk); (try clear ho0); obtain ⟨Ao28, co28, eo28⟩ := Kd.R_slice Q3.out; subst eo28) | ((with_reducible refine qqr (N := 20) rfl ?_); refine Kd.R_lit (Kd.int .u8) _ 5 ?hg (N := 20) ?hd (xs := ([197, ((Q6.length : Int)) % 256] : List Int)) (inner := [.int .u8 197, .int .u8 (((Q6.length : Int)) % 256)]) (ok := fun _ => True) (okp := fun _ => True) ?hr ?hp (fun _ hk => hk) trivial (Below.refl _ _) (Nat.le_refl _) (by simp) ?_; (case hd => rfl); (case hg => rfl); (case hr => first | (go_simp; done) | (go_simp; rfl)); (case hp => exact (Reps.one (show Kd.M (Kd.int .u8) _ _ _ 197 [.int .u8 197] from rfl) (Reps.one (show Kd.M (Kd.int .u8) _ _ _ (((Q6.length : Int)) % 256) [.int .u8 (((Q6.length : Int)) % 256)] from rfl) (Reps.none _ _)))); intro v236 w29 ho30 hb hg_ hnew_; clear hg_ hnew_; (first | rw [← Ny235.out] at ho30 | (simp only [Int.reduceToNat] at ho30; rw [← Ny235.out] at ho30)); have n0_ := Aside0.mk (Kd.R_elder' (by (with_reducible repeat (first | apply Kd.R_alloc | apply Kd.R_drewN | apply Kd.R_drew)); exact Q3.out) (Kd.R_base ho30) hb); have n1_ := Aside0.mk (Kd.R_lower (Kd.R_new' ho30 (Kd.R_lt (by (with_reducible repeat (first | apply Kd.R_alloc | apply Kd.R_drewN | apply Kd.R_drew)); exact Q3.out))) (qqt (by repeat (first | (with_reducible first | exact HB.out | apply qqc | apply qqa | apply qqb | refine qqg ?_ GE230.out) | exact HB.out)))); have n2_ := bbl Q0 hb; have n3_ := bst HB hb; clear Q3; clear Q0; clear HB; have Q3 := n0_; have Qq := n1_; have Q0 := n2_; have HB := n3_; clear n0_ n1_ n2_ n3_; clear hb ho30) | ((with_reducible refine gate_builtin (b := .append) (xs := #[.tmp 21, .tmp 22]) rfl ?_); at_builtin; refine Kd.R_append_rows (Kd.int .u8) (w0 := w) w.heap.size rfl (.tmp 21) (.tmp 22) 31 5 (.int .u8 0) 1 rfl Tryd.underlying31 info5 rfl (by decide) (by omega) v236 Qn Q6 _ _ _ (fun k_ => some k_ ≠ (.slice Ao28 Q6.length co28 : Value).ownBlock) (fun _ => False) rfl rfl ?aO ?aR (fun _ _ h => h) (fun _ h => h.elim) ?aF ?aB ?aS ?aL ?_; (case aR => repeat (first | exact (Kd.R_reads' Q3.out).2.2 | (with_reducible refine Kd.C_alloc ?_ _) | (with_reducible refine Kd.C_drewN ?_ _) | (with_reducible refine Kd.C_drew ?_))); (case aB => exact (by repeat (first | (with_reducible first | exact HB.out | apply qqc | apply qqa | apply qqb | refine qqg ?_ GE230.out) | exact HB.out))); (case aF => exact (fun k_ hk => Kd.fresh' (Kd.R_lt (by (with_reducible repeat (first | apply Kd.R_alloc | apply Kd.R_drewN | apply Kd.R_drew)); exact Q3.out)) k_ hk)); (case aO => exact (by (with_reducible repeat (first | apply Kd.R_alloc | apply Kd.R_drewN | apply Kd.R_drew)); exact Kd.R_mono Qq.out (fun _ hk => hk.2))); (case aS => exact (qqt (by repeat (first | (with_reducible first | exact HB.out | apply qqc | apply qqa | apply qqb | refine qqg ?_ GE230.out) | exact HB.out)))); (case aL => have := LMc4.out; omega); intro v239 w31 ho hb hg hat; rw [← Ny238.out] at ho; have n0_ := Aside0.mk (blk_grown (g := Qp) (o := .cells #[.int .i64 a0_0, .int .i64 a0_1, .int .i64 a0_2, .int .i64 a0_3, .int .i64 a0_4, .int .i64 a0_5, .int .i64 a0_6, .int .i64 a0_7, .int .i64 a0_8, .int .i64 a0_9] 29 (0, 0)) (by (with_reducible repeat (first | refine qqd ?_ _ | refine qqf ?_ | refine qqe ?_ _)); exact Q0.out) hg (Kd.R_ne Qq.out Q0.out (by decide))); have n1_ := Aside0.mk (Kd.R_after (ok := (fun _ => True)) (by (with_reducible repeat (first | apply Kd.R_alloc | apply Kd.R_drewN | apply Kd.R_drew)); exact Q3.out) hg hat); have n2_ := Aside0.mk (hb); have n3_ := Aside0.mk (ho); clear Q0; clear Q3; clear HB; clear Qq; have Q0 := n0_; have Q3 := n1_; have HB := n2_; have Qg := n3_; clear n0_ n1_ n2_ n3_; clear ho hb hg hat; obtain ⟨Ao32, co32, eo32⟩ := Kd.R_slice Qg.out; subst eo32) | ((with_reducible refine qqo (f := 19) rfl ?_); refine goesL_ (some 33) rfl rfl Tryd.func19 (by kernel_rfl) rfl #[.slice Ao32 Q4.length co32] rfl (by (try simp only [List.map_toArray, List.map_cons, List.map_nil]); first | done | rfl | (simp only [List.length_drop, List.length_take]; rfl)) ?_; (with_reducible refine (wayfinderref02_Sum.calls k _ _ Q4 Qo _ ?side1 ?side2 A22.out).mono ?_); (case side1 => repeat (first | exact (Kd.R_reads' Qg.out).2.2 | (with_reducible refine Kd.C_alloc ?_ _) | (with_reducible refine Kd.C_drewN ?_ _) | (with_reducible refine Kd.C_drew ?_))); (case side2 => exact (Kd.R_reads' Qg.out).2.1); rintro e w' ⟨rfl, ⟨nd, rfl⟩⟩; refine ⟨_, rfl, ?_⟩) | ((with_reducible refine qqo (f := 18) rfl ?_); refine goesL_ (some 34) rfl rfl Tryd.func18 (by kernel_rfl) rfl #[.int .i64 Qo, .int .i64 2] rfl (by (try simp only [List.map_toArray, List.map_cons, List.map_nil]); first | done | rfl | (simp only [List.length_drop, List.length_take]; rfl)) ?_; (with_reducible refine (wayfinderref02_Put.calls k Qo 2 t253 t254 _ A23.out).mono ?_); rintro e w33 ⟨v255, rfl, ho0, hb⟩; refine ⟨_, rfl, ?_⟩; have n0_ := Aside0.mk (Kd.R_elder' (by (with_reducible repeat (first | apply Kd.R_alloc | apply Kd.R_drewN | apply Kd.R_drew)); exact Q3.out) (Kd.R_base ho0) hb); have n1_ := Aside0.mk (Kd.R_elder' (by (with_reducible repeat (first | apply Kd.R_alloc | apply Kd.R_drewN | apply Kd.R_drew)); exact Qg.out) (Kd.R_base ho0) hb); have n2_ := Aside0.mk (Kd.R_lower (Kd.R_new' (Kd.R_new' ho0 (Kd.R_lt (by (with_reducible repeat (first | apply Kd.R_alloc | apply Kd.R_drewN | apply Kd.R_drew)); exact Q3.out))) (Kd.R_lt (by (with_reducible repeat (first | apply Kd.R_alloc | apply Kd.R_drewN | apply Kd.R_drew)); exact Qg.out))) (qqt (by repeat (first | (with_reducible first | exact HB.out | apply qqc | apply qqa | apply qqb | refine qqg ?_ GE230.out) | exact HB.out)))); have n3_ := bbl Q0 hb; have n4_ := bst HB hb; clear Q3; clear Qg; clear Q0; clear HB; have Q3 := n0_; have Qg := n1_; have Qt := n2_; have Q0 := n3_; have HB := n4_; clear n0_ n1_ n2_ n3_ n4_; (try clear hb); (try clear hk); (try clear ho0); obtain ⟨Ao35, co35, eo35⟩ := Kd.R_slice Qt.out; subst eo35) | ((with_reducible refine gate_builtin (b := .append) (xs := #[.tmp 37, .tmp 38]) rfl ?_); at_builtin; refine Kd.R_append_rows (Kd.int .u8) (w0 := w) w.heap.size rfl (.tmp 37) (.tmp 38) 31 5 (.int .u8 0) 1 rfl Tryd.underlying31 info5 rfl (by decide) (by omega) (.slice Ao32 Q4.length co32) Q4 t253 _ _ _ (fun k_ => some k_ ≠ (.slice Ao28 Q6.length co28 : Value).ownBlock ∧ some k_ ≠ (.slice Ao35 t253.length co35 : Value).ownBlock) (fun _ => False) rfl rfl ?aO ?aR (fun _ _ h => h) (fun _ h => h.elim) ?aF ?aB ?aS ?aL ?_; (case aR => repeat (first | exact (Kd.R_reads' Qt.out).2.2 | (with_reducible refine Kd.C_alloc ?_ _) | (with_reducible refine Kd.C_drewN ?_ _) | (with_reducible refine Kd.C_drew ?_))); (case aB => exact (by repeat (first | (with_reducible first | exact HB.out | apply qqc | apply qqa | apply qqb | refine qqg ?_ GE230.out) | exact HB.out))); (case aF => exact (fun k_ hk => ⟨Kd.fresh' (Kd.R_lt (by (with_reducible repeat (first | apply Kd.R_alloc | apply Kd.R_drewN | apply Kd.R_drew)); exact Q3.out)) k_ hk, Kd.fresh' (Kd.R_lt (by (with_reducible repeat (first | apply Kd.R_alloc | apply Kd.R_drewN | apply Kd.R_drew)); exact Qt.out)) k_ hk⟩)); (case aO => exact (by (with_reducible repeat (first | apply Kd.R_alloc | apply Kd.R_drewN | apply Kd.R_drew)); exact Qg.out)); (case aS => exact (qqt (by repeat (first | (with_reducible first | exact HB.out | apply qqc | apply qqa | apply qqb | refine qqg ?_ GE230.out) | exact HB.out)))); (case aL => have := LMc24.out; omega); intro v258 w34 ho hb hg hat; rw [← Ny257.out] at ho; have n0_ := Aside0.mk (blk_grown (g := Qp) (o := .cells #[.int .i64 a0_0, .int .i64 a0_1, .int .i64 a0_2, .int .i64 a0_3, .int .i64 a0_4, .int .i64 a0_5, .int .i64 a0_6, .int .i64 a0_7, .int .i64 a0_8, .int .i64 a0_9] 29 (0, 0)) (by (with_reducible repeat (first | refine qqd ?_ _ | refine qqf ?_ | refine qqe ?_ _)); exact Q0.out) hg (Kd.R_ne Qg.out Q0.out (by decide))); have n1_ := Aside0.mk (Kd.R_after (ok := (fun k_ => some k_ ≠ (.slice Ao35 t253.length co35 : Value).ownBlock)) (by (with_reducible repeat (first | apply Kd.R_alloc | apply Kd.R_drewN | apply Kd.R_drew)); exact Kd.R_mono Q3.out (fun _ hk => ⟨hk.2, hk.1.2⟩)) hg hat); have n2_ := Aside0.mk (Kd.R_after (ok := (fun k_ => some k_ ≠ (.slice Ao28 Q6.length co28 : Value).ownBlock)) (by (with_reducible repeat (first | apply Kd.R_alloc | apply Kd.R_drewN | apply Kd.R_drew)); exact Kd.R_mono Qt.out (fun _ hk => ⟨hk.1.2, hk.2⟩)) hg hat); have n3_ := Aside0.mk (hb); have n4_ := Aside0.mk (ho); clear Q0; clear Q3; clear Qt; clear HB; clear Qg; have Q0 := n0_; have Q3 := n1_; have Qt := n2_; have HB := n3_; have HO259 := n4_; clear n0_ n1_ n2_ n3_ n4_; clear ho hb hg hat))
     go_ret2
     exact ⟨_, by first | rfl | (simp [qqk, qqj] <;> rfl) | (simp [*, qqk, qqj] <;> rfl), by (with_reducible repeat (first | apply Kd.R_alloc | apply Kd.R_drewN | apply Kd.R_drew)); exact Kd.R_mono HO259.out (fun _ hk => trivial), by repeat (first | (with_reducible first | exact HB.out | apply qqc | apply qqa | apply qqb | refine qqg ?_ GE230.out) | exact HB.out)⟩
    ·rw [if_neg c24] at H
     exact absurd H (by simp)
  ·rw [if_neg c4] at H
   exact absurd H (by simp)
 ·rw [if_neg c3] at H
  have c3b0 : (t234 == 0) = false := beq_eq_false_iff_ne.mpr c3
  have c3b1 : (t234 != 0) = true := bne_iff_ne.mpr c3
  simp only [Option.some.injEq, Prod.mk.injEq] at H
  obtain ⟨rfl, rfl⟩ := H
  go_enter Tryd.func11, Tryd.ntmps11
  go_wp2_with (first | ((with_reducible refine qqr (N := 1) rfl ?_); refine qqw ?hg (N := 1) ?hd (cs := #[.int .i64 a0_0, .int .i64 a0_1, .int .i64 a0_2, .int .i64 a0_3, .int .i64 a0_4, .int .i64 a0_5, .int .i64 a0_6, .int .i64 a0_7, .int .i64 a0_8, .int .i64 a0_9]) (t := 29) ?hr ?_; (case hd => rfl); (case hg => rfl); (case hr => first | (go_simp; done) | (go_simp; rfl)); intro Qp hg w36 hbox hb; have n0_ := bst HB hb; have n1_ := Aside0.mk (hbox); have n2_ := szl HB hg; have n3_ := szl HB hg; clear HB; have HB := n0_; have Q0 := n1_; have GW230 := n2_; have GE230 := n3_; clear n0_ n1_ n2_ n3_; clear hb hbox hg; obtain ⟨_, _, _, _, _, _, _, _, _, _⟩ := qqz Q0.out; obtain ⟨_, _, _, _, _, _, _, _, _, _⟩ := qqx Q0.out) | ((with_reducible refine qqo (f := 17) rfl ?_); refine goesL_ (some 11) rfl rfl Tryd.func17 (by kernel_rfl) rfl #[.agg #[.int .i64 a0_0, .int .i64 a0_1, .int .i64 a0_2, .int .i64 a0_3, .int .i64 a0_4, .int .i64 a0_5, .int .i64 a0_6, .int .i64 a0_7, .int .i64 a0_8, .int .i64 a0_9]] rfl (by (try simp only [List.map_toArray, List.map_cons, List.map_nil]); first | done | rfl | (simp only [List.length_drop, List.length_take]; rfl)) ?_; (with_reducible refine (wayfinderref05_Put.calls k a0_0 a0_1 a0_2 a0_3 a0_4 a0_5 a0_6 a0_7 a0_8 a0_9 Q6 t234 _ A2.out).mono ?_); rintro e w38 ⟨v232, rfl, ho0, hb⟩; refine ⟨_, rfl, ?_⟩; have Q3 := Aside0.mk (Kd.R_lower ho0 (qqt (by repeat (first | (with_reducible first | exact HB.out | apply qqc | apply qqa | apply qqb | refine qqg ?_ GE230.out) | exact HB.out)))); replace Q0 := bbl Q0 hb; replace HB := bst HB hb; (try clear hb); (try clear ho0)))
  go_ret2
  exact ⟨_, by first | rfl | (simp [qqk, qqj] <;> rfl) | (simp [*, qqk, qqj] <;> rfl), by first | exact Kd.R_nil _ _ _ _ _ | exact Kd.N_nil _ _ _ _ _ | exact Kd.V_nil _ _ _ _ _ | exact Kd.Q_nil _ _ _ _ _ | exact Kd.S_nil _ _ _ _ _, by repeat (first | (with_reducible first | exact HB.out | apply qqc | apply qqa | apply qqb | refine qqg ?_ GE230.out) | exact HB.out)⟩
def octets_Get.l0 : Nat → Int → List Int → Int → Int → Option (Int × Int)
 | 0, _, _, _, _ => none
 | k + 1, x6, x20, x21, x22 => if x22 < x21 then (if 0 ≤ x22 then (if x22 < (x20.length : Int) then (octets_Get.l0 k (Go.bits .or .u32 ((x6 * 256) % 4294967296) ((rd x20 x22) % 4294967296)) x20 x21 (wrap64 (x22 + 1))) else (none)) else (none)) else (some (wrap64 (x6), 0))
def octets_Get.f (k : Nat) (l0 : List Int) (a1 : Int) : Option (Int × Int) := (octets_may.f a1).bind fun t260 => (if t260 = true then (if (l0.length : Int) < a1 then (some (0, 3)) else (if 0 ≤ a1 then (if a1 ≤ (l0.length : Int) then (octets_Get.l0 k 0 (l0.take (a1 : Int).toNat) ((l0.take (a1 : Int).toNat).length : Int) 0) else (none)) else (none))) else (some (0, 1)))
theorem octets_Get.mono_l : ∀ k, (∀ y0 y1 y2 y3, LeO (octets_Get.l0 k y0 y1 y2 y3) (octets_Get.l0 (k + 1) y0 y1 y2 y3))
 | 0 => fun _ _ _ _ r h => by simp [octets_Get.l0] at h
 | k + 1 => by
  have ih0 := octets_Get.mono_l k
  ·intro y0 y1 y2 y3
   unfold octets_Get.l0
   repeat' first
   | (with_reducible exact ih0 _ _ _ _)
   | (with_reducible exact LeO.refl _)
   | (with_reducible exact LeO.none _)
   | (with_reducible refine LeO.ite ?_ ?_)
   | (with_reducible refine LeO.bind ?_ (fun _ => ?_))
   | exact ih0 _ _ _ _
   | exact LeO.none _
   | refine LeO.ite ?_ ?_
   | refine LeO.bind ?_ (fun _ => ?_)
theorem octets_Get.mono : ∀ a0 a1 k, LeO (octets_Get.f k a0 a1) (octets_Get.f (k + 1) a0 a1) := by
 intro a0 a1 k
 have ih0 := octets_Get.mono_l k
 unfold octets_Get.f
 repeat' first
   | (with_reducible exact ih0 _ _ _ _)
   | (with_reducible exact LeO.refl _)
   | (with_reducible exact LeO.none _)
   | (with_reducible refine LeO.ite ?_ ?_)
   | (with_reducible refine LeO.bind ?_ (fun _ => ?_))
   | exact ih0 _ _ _ _
   | exact LeO.none _
   | refine LeO.ite ?_ ?_
   | refine LeO.bind ?_ (fun _ => ?_)
set_option maxHeartbeats 8000000 in
set_option maxRecDepth 100000 in
theorem octets_Get.calls (k : Nat) (A0 : Option Addr) (c0 : Nat) (l0 : List Int) (a1 : Int) (r1 : Int) (r2 : Int) (w : World) (hr0 : Kd.C (Kd.int .u8) w A0 l0.length l0) (hc0 : l0.length ≤ c0) (h : octets_Get.f k l0 a1 = some (r1, r2)) :
  Calls Tryd.prog 45 #[.slice A0 l0.length c0, .int .i64 a1] w fun e w' => e = .returned (.tuple #[.int .i64 r1, .int .i64 r2]) ∧ Drawn0 w w' := by
 have HR0 := Aside0.mk hr0
 have HC0 := Aside0.mk hc0
 clear hr0 hc0
 have H : ((octets_may.f a1).bind fun t260 => (if t260 = true then (if (l0.length : Int) < a1 then (some (0, 3)) else (if 0 ≤ a1 then (if a1 ≤ (l0.length : Int) then (octets_Get.l0 k 0 (l0.take (a1 : Int).toNat) ((l0.take (a1 : Int).toNat).length : Int) 0) else (none)) else (none))) else (some (0, 1)))) = some (r1, r2) := h
 clear h
 replace H := Option.bind_eq_some_iff.mp H
 obtain ⟨t260, A30, H⟩ := H
 replace H : (if t260 = true then (if (l0.length : Int) < a1 then (some (0, 3)) else (if 0 ≤ a1 then (if a1 ≤ (l0.length : Int) then (octets_Get.l0 k 0 (l0.take (a1 : Int).toNat) ((l0.take (a1 : Int).toNat).length : Int) 0) else (none)) else (none))) else (some (0, 1))) = some (r1, r2) := H
 have A3 := Aside0.mk A30
 clear A30
 by_cases c4 : t260 = true
 ·subst c4
  have H1 : (if (l0.length : Int) < a1 then (some (0, 3)) else (if 0 ≤ a1 then (if a1 ≤ (l0.length : Int) then (octets_Get.l0 k 0 (l0.take (a1 : Int).toNat) ((l0.take (a1 : Int).toNat).length : Int) 0) else (none)) else (none))) = some (r1, r2) := by rw [if_pos rfl] at H; exact H
  clear H
  have H := H1
  clear H1
  by_cases c5 : (l0.length : Int) < a1
  ·rw [if_pos c5] at H
   have c5b0 : decide ((l0.length : Int) < a1) = true := decide_eq_true c5
   clear c5
   simp only [Option.some.injEq, Prod.mk.injEq] at H
   obtain ⟨rfl, rfl⟩ := H
   go_enter Tryd.func45, Tryd.ntmps45
   go_wp2_with (first | ((with_reducible refine qqo (f := 47) rfl ?_); refine goesL_ (some 11) rfl rfl Tryd.func47 (by kernel_rfl) rfl #[.int .i64 a1] rfl (by (try simp only [List.map_toArray, List.map_cons, List.map_nil]); first | done | rfl | (simp only [List.length_drop, List.length_take]; rfl)) ?_; (with_reducible refine (octets_may.calls a1 true _ A3.out).mono ?_); rintro e w' ⟨rfl, ⟨nd, rfl⟩⟩; refine ⟨_, rfl, ?_⟩))
   go_ret2
   exact ⟨by first | rfl | (simp; done) | (simp [*]; done), by repeat (first | exact Drawn0.refl _ | apply Drawn0.step)⟩
  ·rw [if_neg c5] at H
   have c5b0 : decide ((l0.length : Int) < a1) = false := decide_eq_false c5
   clear c5
   by_cases c6 : 0 ≤ a1
   ·rw [if_pos c6] at H
    have c6b0 := eq_true c6
    have c6b1 : decide (0 ≤ a1) = true := decide_eq_true c6
    clear c6
    by_cases c7 : a1 ≤ (l0.length : Int)
    ·rw [if_pos c7] at H
     have c7b0 := eq_true c7
     have c7b1 : decide (a1 ≤ (l0.length : Int)) = true := decide_eq_true c7
     clear c7
     have H' := Aside0.mk H
     clear H
     go_enter Tryd.func45, Tryd.ntmps45
     go_wp2_with (first | ((with_reducible refine qqo (f := 47) rfl ?_); refine goesL_ (some 11) rfl rfl Tryd.func47 (by kernel_rfl) rfl #[.int .i64 a1] rfl (by (try simp only [List.map_toArray, List.map_cons, List.map_nil]); first | done | rfl | (simp only [List.length_drop, List.length_take]; rfl)) ?_; (with_reducible refine (octets_may.calls a1 true _ A3.out).mono ?_); rintro e w' ⟨rfl, ⟨nd, rfl⟩⟩; refine ⟨_, rfl, ?_⟩; obtain ⟨i08, hi08, _, hsz8, _⟩ := info_parts info5; obtain ⟨hcut8, hA8, hC8⟩ := print_take_of (P := Tryd.prog) (Value.int .u8) 0 31 5 .i64 Tryd.underlying31 hi08 hsz8 A0 c0 l0 a1 (of_decide_eq_true (by first | (with_reducible assumption) | assumption)) (of_decide_eq_true (by first | (with_reducible assumption) | assumption)) HC0.out; have HR261 := Aside0.mk (Kd.C_of_reads (h1 := fun _ => rfl) (hA8 _ (Kd.reads_of_C HR0.out))); have HC261 := Aside0.mk hC8; clear hA8 hC8 hi08 hsz8))
     have HMX_ := Aside0.mk (show max a1 0 = ((l0.take (a1 : Int).toNat).length : Int) by have h1 : 0 ≤ a1 := of_decide_eq_true (by assumption); have h2 : a1 ≤ (l0.length : Int) := of_decide_eq_true (by assumption); rw [List.length_take]; omega)
     go_loopg [6, 22] k (fun kq v6 v22 w' => ∃ (x6_1 : Int) (Q9 : Int), v6 = .int .u32 x6_1 ∧ v22 = .int .i64 Q9 ∧ Aside0 (octets_Get.l0 kq x6_1 (l0.take (a1 : Int).toNat) ((l0.take (a1 : Int).toNat).length : Int) Q9 = some (r1, r2)) ∧ Aside0 (kq ≤ k) ∧ Drawn0 w w')
     case atStart => exact ⟨(0), (0), (by first | rfl | (simp; done) | (simp [*]; done)), (by first | rfl | (simp; done) | (simp [*]; done)), H', ⟨Nat.le_refl _⟩, by repeat (first | exact Drawn0.refl _ | apply Drawn0.step)⟩
     case round =>
      clear H'
      try clear p2
      try clear c4
      try clear c5
      try clear c5b0
      try clear c6
      try clear c6b0
      try clear c6b1
      try clear c7
      try clear c7b0
      try clear c7b1
      obtain ⟨x6_1, Q9, rfl, rfl, HA, HK1, ⟨m1, rfl⟩⟩ := hrel
      cases gk with
      | zero => exact absurd HA.out (by simp [octets_Get.l0])
      | succ k1 =>
       have H := HA.out
       clear HA
       simp only [octets_Get.l0] at H
       by_cases c9 : Q9 < ((l0.take (a1 : Int).toNat).length : Int)
       ·rw [if_pos c9] at H
        have c9b0 : decide (Q9 < ((l0.take (a1 : Int).toNat).length : Int)) = true := decide_eq_true c9
        (try (have c9m : decide (Q9 < max a1 0) = true := by rw [HMX_.out]; exact c9b0))
        (try (have c9p : (Q9 < max a1 0) = True := eq_true (of_decide_eq_true c9m)))
        clear c9
        by_cases c10 : 0 ≤ Q9
        ·rw [if_pos c10] at H
         have c10b0 : decide (0 ≤ Q9) = true := decide_eq_true c10
         clear c10
         by_cases c11 : Q9 < ((l0.take (a1 : Int).toNat).length : Int)
         ·rw [if_pos c11] at H
          have c11b0 : decide (Q9 < ((l0.take (a1 : Int).toNat).length : Int)) = true := decide_eq_true c11
          (try (have c11m : decide (Q9 < max a1 0) = true := by rw [HMX_.out]; exact c11b0))
          (try (have c11p : (Q9 < max a1 0) = True := eq_true (of_decide_eq_true c11m)))
          clear c11
          have H' := Aside0.mk H
          clear H
          have p262 : 0 ≤ (Q9 : Int) := of_decide_eq_true (by first | (with_reducible assumption) | assumption)
          have q262 : Q9 < ((l0.take (a1 : Int).toNat).length : Int) := of_decide_eq_true (by first | (with_reducible assumption) | assumption)
          obtain ⟨ad262, e262, hx262_0⟩ := Kd.at_int HR261.out Q9 p262 q262
          cases e262
          replace p262 := eq_true p262
          replace q262 := eq_true q262
          go_wp2
          go_roundg k1
          case measure => have := HK1.out; omega
          case rel => exact ⟨(Go.bits .or .u32 ((x6_1 * 256) % 4294967296) ((rd (l0.take (a1 : Int).toNat) Q9) % 4294967296)), (wrap64 (Q9 + 1)), (by first | rfl | (simp; done) | (simp [*]; done)), (by first | rfl | (simp; done) | (simp [*]; done)), H', ⟨by have := HK1.out; omega⟩, by repeat (first | exact Drawn0.refl _ | apply Drawn0.step)⟩
         ·rw [if_neg c11] at H
          exact absurd H (by simp)
        ·rw [if_neg c10] at H
         exact absurd H (by simp)
       ·rw [if_neg c9] at H
        have c9b0 : decide (Q9 < ((l0.take (a1 : Int).toNat).length : Int)) = false := decide_eq_false c9
        (try (have c9m : decide (Q9 < max a1 0) = false := by rw [HMX_.out]; exact c9b0))
        (try (have c9p : (Q9 < max a1 0) = False := eq_false (of_decide_eq_false c9m)))
        clear c9
        simp only [Option.some.injEq, Prod.mk.injEq] at H
        obtain ⟨rfl, rfl⟩ := H
        go_wp2
        go_ret2
        exact ⟨by first | rfl | (simp; done) | (simp [*]; done), by repeat (first | exact Drawn0.refl _ | apply Drawn0.step)⟩
    ·rw [if_neg c7] at H
     exact absurd H (by simp)
   ·rw [if_neg c6] at H
    exact absurd H (by simp)
 ·replace c4 := Bool.eq_false_iff.mpr c4
  subst c4
  have H1 : (some (0, 1)) = some (r1, r2) := by rw [if_neg (show ¬ (false = true) by decide)] at H; exact H
  clear H
  have H := H1
  clear H1
  simp only [Option.some.injEq, Prod.mk.injEq] at H
  obtain ⟨rfl, rfl⟩ := H
  go_enter Tryd.func45, Tryd.ntmps45
  go_wp2_with (first | ((with_reducible refine qqo (f := 47) rfl ?_); refine goesL_ (some 11) rfl rfl Tryd.func47 (by kernel_rfl) rfl #[.int .i64 a1] rfl (by (try simp only [List.map_toArray, List.map_cons, List.map_nil]); first | done | rfl | (simp only [List.length_drop, List.length_take]; rfl)) ?_; (with_reducible refine (octets_may.calls a1 false _ A3.out).mono ?_); rintro e w' ⟨rfl, ⟨nd, rfl⟩⟩; refine ⟨_, rfl, ?_⟩))
  go_ret2
  exact ⟨by first | rfl | (simp; done) | (simp [*]; done), by repeat (first | exact Drawn0.refl _ | apply Drawn0.step)⟩
def octets_GetAll.l0 : Nat → List Int → List Int → List Int → List Int → Int → Int → Option (List Int × Int × Int)
 | 0, _, _, _, _, _, _ => none
 | k + 1, x0, x7, x8, x14, x15, x16 => if x16 < x15 then (if 0 ≤ x16 then (if x16 < (x14.length : Int) then ((octets_Get.f k x8 (rd x14 x16)).bind fun bt264 => (if bt264.2 = 0 then (if x7.length < 17592186044416 then (if 0 ≤ (rd x14 x16) then (if (rd x14 x16) ≤ (x8.length : Int) then (octets_GetAll.l0 k x0 (x7 ++ [bt264.1]) (x8.drop ((rd x14 x16) : Int).toNat) x14 x15 (wrap64 (x16 + 1))) else (none)) else (none)) else (none)) else (some (([] : List Int), 0, bt264.2)))) else (none)) else (none)) else (some (x7, wrap64 ((x0.length : Int) - (x8.length : Int)), 0))
def octets_GetAll.f (k : Nat) (l0 : List Int) (l1 : List Int) : Option (List Int × Int × Int) := octets_GetAll.l0 k l0 ([] : List Int) l0 l1 (l1.length : Int) 0
theorem octets_GetAll.mono_l : ∀ k, (∀ y0 y1 y2 y3 y4 y5, LeO (octets_GetAll.l0 k y0 y1 y2 y3 y4 y5) (octets_GetAll.l0 (k + 1) y0 y1 y2 y3 y4 y5))
 | 0 => fun _ _ _ _ _ _ r h => by simp [octets_GetAll.l0] at h
 | k + 1 => by
  have ih0 := octets_GetAll.mono_l k
  ·intro y0 y1 y2 y3 y4 y5
   unfold octets_GetAll.l0
   repeat' first
   | (with_reducible exact ih0 _ _ _ _ _ _)
   | (with_reducible exact octets_Get.mono _ _ _)
   | (with_reducible exact LeO.refl _)
   | (with_reducible exact LeO.none _)
   | (with_reducible refine LeO.ite ?_ ?_)
   | (with_reducible refine LeO.bind ?_ (fun _ => ?_))
   | exact ih0 _ _ _ _ _ _
   | exact octets_Get.mono _ _ _
   | exact LeO.none _
   | refine LeO.ite ?_ ?_
   | refine LeO.bind ?_ (fun _ => ?_)
theorem octets_GetAll.mono : ∀ a0 a1 k, LeO (octets_GetAll.f k a0 a1) (octets_GetAll.f (k + 1) a0 a1) := by
 intro a0 a1 k
 have ih0 := octets_GetAll.mono_l k
 unfold octets_GetAll.f
 repeat' first
   | (with_reducible exact ih0 _ _ _ _ _ _)
   | (with_reducible exact octets_Get.mono _ _ _)
   | (with_reducible exact LeO.refl _)
   | (with_reducible exact LeO.none _)
   | (with_reducible refine LeO.ite ?_ ?_)
   | (with_reducible refine LeO.bind ?_ (fun _ => ?_))
   | exact ih0 _ _ _ _ _ _
   | exact octets_Get.mono _ _ _
   | exact LeO.none _
   | refine LeO.ite ?_ ?_
   | refine LeO.bind ?_ (fun _ => ?_)
def octets_GetAll.T9 : Bool × List (List Nat × List Nat) := (true, [([], []), ([], []), ([1], [1]), ([0, 2], [0, 2]), ([], []), ([], []), ([4, 5], [4, 5]), ([3, 3, 0, 1, 2, 3], [0, 3]), ([6, 7, 0, 1, 2, 3, 4, 5, 6, 7], [4, 6])])
def octets_GetAll.B9 : List Nat := [0, 0, 2, 7, 0, 0, 48, 15, 255]
theorem octets_GetAll.tab9 : rtab .any (opsOf Tryd.f38 9) = octets_GetAll.T9 := by kernel_rfl
theorem octets_GetAll.bits9 : waitsOk octets_GetAll.T9.2 octets_GetAll.B9 = true := by kernel_rfl
set_option maxHeartbeats 8000000 in
set_option maxRecDepth 100000 in
theorem octets_GetAll.calls (k : Nat) (P0_ : Nat → Prop) (A0 : Option Addr) (c0 : Nat) (l0 : List Int) (A1 : Option Addr) (c1 : Nat) (l1 : List Int) (r1 : List Int) (r2 : Int) (r3 : Int) (w : World) (hs0 : Kd.V (Kd.int .u8) 5 w w.heap.size (fun k_ => P0_ k_) (.slice A0 l0.length c0) l0) (hr1 : Kd.C (Kd.int .i64) w A1 l1.length l1) (hc1 : l1.length ≤ c1) (h : octets_GetAll.f k l0 l1 = some (r1, r2, r3)) :
  Calls Tryd.prog 38 #[.slice A0 l0.length c0, .slice A1 l1.length c1] w fun e w' => ∃ v0_ : Value, e = .returned (.tuple #[v0_, .int .i64 r2, .int .i64 r3]) ∧ Kd.R (Kd.int .i64) 3 w' w.heap.size (fun k_ => (w.heap.size ≤ k_)) v0_ r1 ∧ Below w.heap.size w w' := by
 have HO0 := Aside0.mk (show Kd.V (Kd.int .u8) 5 w w.heap.size (fun k_ => (P0_ k_ ∨ w.heap.size ≤ k_)) (.slice A0 l0.length c0) l0 from Kd.V_mono hs0 (fun k_ hk => .inl hk))
 have HR1 := Aside0.mk hr1
 have HC1 := Aside0.mk hc1
 clear hr1 hc1
 have HB := Aside0.mk (Below.refl w.heap.size w)
 have H : (octets_GetAll.l0 k l0 ([] : List Int) l0 l1 (l1.length : Int) 0) = some (r1, r2, r3) := h
 clear h
 have H' := Aside0.mk H
 clear H
 go_enter Tryd.func38, Tryd.ntmps38
 go_wp2
 go_loopg [7, 8, 16] k (fun kq v7 v8 v16 w' => ∃ (x7_1 : List Int) (Qf : List Int) (Q1 : Int), v16 = .int .i64 Q1 ∧ Aside0 (octets_GetAll.l0 kq l0 x7_1 Qf l1 (l1.length : Int) Q1 = some (r1, r2, r3)) ∧ Aside0 (kq ≤ k) ∧ Aside0 (Kd.V (Kd.int .u8) 5 w' w.heap.size (fun k_ => (P0_ k_ ∨ w.heap.size ≤ k_) ∧ some k_ ≠ (v7 : Value).ownBlock) (.slice A0 l0.length c0) l0) ∧ Aside0 (Kd.R (Kd.int .i64) 3 w' w.heap.size (fun k_ => (w.heap.size ≤ k_)) v7 x7_1) ∧ Aside0 (Kd.V (Kd.int .u8) 5 w' w.heap.size (fun k_ => (P0_ k_ ∨ w.heap.size ≤ k_) ∧ some k_ ≠ (v7 : Value).ownBlock) v8 Qf) ∧ Aside0 (Below w.heap.size w w'))
 case atStart => exact ⟨(([] : List Int)), (l0), (0), (by first | rfl | (simp; done) | (simp [*]; done)), H', ⟨Nat.le_refl _⟩, ⟨by (with_reducible repeat (first | apply Kd.V_alloc | apply Kd.V_drewN | apply Kd.V_drew)); exact Kd.V_mono HO0.out (fun _ hk => ⟨hk, (by simp [Value.ownBlock])⟩)⟩, ⟨by first | exact Kd.R_nil _ _ _ _ _ | exact Kd.N_nil _ _ _ _ _ | exact Kd.V_nil _ _ _ _ _ | exact Kd.Q_nil _ _ _ _ _ | exact Kd.S_nil _ _ _ _ _⟩, ⟨by (with_reducible repeat (first | apply Kd.V_alloc | apply Kd.V_drewN | apply Kd.V_drew)); exact Kd.V_mono HO0.out (fun _ hk => ⟨hk, (by simp [Value.ownBlock])⟩)⟩, ⟨by repeat (first | (with_reducible first | exact HB.out | apply qqc | apply qqa | apply qqb) | exact HB.out)⟩⟩
 case round =>
  clear H'
  try clear c1
  try clear p2
  obtain ⟨x7_1, Qf, Q1, rfl, HA, HK1, HO_0, HO_7, HO_8, HB⟩ := hrel
  cases gk with
  | zero => exact absurd HA.out (by simp [octets_GetAll.l0])
  | succ k1 =>
   have H := HA.out
   clear HA
   simp only [octets_GetAll.l0] at H
   by_cases c3 : Q1 < (l1.length : Int)
   ·rw [if_pos c3] at H
    have c3b0 : decide (Q1 < (l1.length : Int)) = true := decide_eq_true c3
    clear c3
    by_cases c4 : 0 ≤ Q1
    ·rw [if_pos c4] at H
     have c4b0 : decide (0 ≤ Q1) = true := decide_eq_true c4
     clear c4
     by_cases c5 : Q1 < (l1.length : Int)
     ·rw [if_pos c5] at H
      have c5b0 : decide (Q1 < (l1.length : Int)) = true := decide_eq_true c5
      clear c5
      replace H := Option.bind_eq_some_iff.mp H
      obtain ⟨⟨t264, t265⟩, A60, H⟩ := H
      replace H : (if t265 = 0 then (if x7_1.length < 17592186044416 then (if 0 ≤ (rd l1 Q1) then (if (rd l1 Q1) ≤ (Qf.length : Int) then (octets_GetAll.l0 k1 l0 (x7_1 ++ [t264]) (Qf.drop ((rd l1 Q1) : Int).toNat) l1 (l1.length : Int) (wrap64 (Q1 + 1))) else (none)) else (none)) else (none)) else (some (([] : List Int), 0, t265))) = some (r1, r2, r3) := H
      have A6 := Aside0.mk A60
      clear A60
      by_cases c7 : t265 = 0
      ·rw [if_pos c7] at H
       have c7b0 : (t265 == 0) = true := beq_iff_eq.mpr c7
       have c7b1 : (t265 != 0) = false := bne_eq_false_iff_eq.mpr c7
       clear c7
       by_cases c8 : x7_1.length < 17592186044416
       ·rw [if_pos c8] at H
        have LMc8 := Aside0.mk c8
        clear c8
        obtain ⟨y266, hy266⟩ : ∃ y_ : List Int, y_ = (x7_1 ++ [t264]) := ⟨_, rfl⟩
        replace H : (if 0 ≤ (rd l1 Q1) then (if (rd l1 Q1) ≤ (Qf.length : Int) then (octets_GetAll.l0 k1 l0 y266 (Qf.drop ((rd l1 Q1) : Int).toNat) l1 (l1.length : Int) (wrap64 (Q1 + 1))) else (none)) else (none)) = some (r1, r2, r3) := by first | (rw [hy266]; with_reducible exact H) | (have H2_ := (Option.bind_some _ _).symm.trans H; rw [hy266]; with_reducible exact H2_) | (have H2_ := (Option.bind_some _ _).symm.trans H; with_reducible exact H2_) | with_reducible exact H | (rw [hy266]; exact H) | exact H
        have Ny266 := Aside0.mk hy266
        clear hy266
        by_cases c9 : 0 ≤ (rd l1 Q1)
        ·rw [if_pos c9] at H
         have c9b0 := eq_true c9
         have c9b1 : decide (0 ≤ (rd l1 Q1)) = true := decide_eq_true c9
         clear c9
         by_cases c10 : (rd l1 Q1) ≤ (Qf.length : Int)
         ·rw [if_pos c10] at H
          have c10b0 := eq_true c10
          have c10b1 : decide ((rd l1 Q1) ≤ (Qf.length : Int)) = true := decide_eq_true c10
          clear c10
          obtain ⟨y269, hy269⟩ : ∃ y_ : List Int, y_ = (Qf.drop ((rd l1 Q1) : Int).toNat) := ⟨_, rfl⟩
          replace H : (octets_GetAll.l0 k1 l0 y266 y269 l1 (l1.length : Int) (wrap64 (Q1 + 1))) = some (r1, r2, r3) := by first | (rw [hy269]; with_reducible exact H) | (have H2_ := (Option.bind_some _ _).symm.trans H; rw [hy269]; with_reducible exact H2_) | (have H2_ := (Option.bind_some _ _).symm.trans H; with_reducible exact H2_) | with_reducible exact H | (rw [hy269]; exact H) | exact H
          have Ny269 := Aside0.mk hy269
          clear hy269
          have H' := Aside0.mk H
          clear H
          have p263 : 0 ≤ (Q1 : Int) := of_decide_eq_true (by first | (with_reducible assumption) | assumption)
          have q263 : Q1 < (l1.length : Int) := of_decide_eq_true (by first | (with_reducible assumption) | assumption)
          obtain ⟨ad263, e263, Qi⟩ := Kd.at_int HR1.out Q1 p263 q263
          cases e263
          replace Qi := (HB.out.cell (World.block_lt_of_cell? w _ Qi)).trans Qi
          replace p263 := eq_true p263
          replace q263 := eq_true q263
          obtain ⟨Ao11, co11, eo11⟩ := Kd.V_slice HO_8.out
          subst eo11
          try go_wp2_with (first | ((with_reducible refine qqo (f := 45) rfl ?_); refine goesL_ (some 23) rfl rfl Tryd.func45 (by kernel_rfl) rfl #[.slice Ao11 Qf.length co11, .int .i64 (rd l1 Q1)] rfl (by (try simp only [List.map_toArray, List.map_cons, List.map_nil]); first | done | rfl | (simp only [List.length_drop, List.length_take]; rfl)) ?_; (with_reducible refine (octets_Get.calls k1 _ _ Qf (rd l1 Q1) t264 t265 _ ?side1 ?side2 A6.out).mono ?_); (case side1 => repeat (first | exact (Kd.V_reads' HO_8.out).2.2 | (with_reducible refine Kd.C_alloc ?_ _) | (with_reducible refine Kd.C_drewN ?_ _) | (with_reducible refine Kd.C_drew ?_))); (case side2 => exact (Kd.V_reads' HO_8.out).2.1); rintro e w' ⟨rfl, ⟨nd, rfl⟩⟩; refine ⟨_, rfl, ?_⟩))
          (try (rw [drewN_self wr]; generalize hq_ : World.drewN wr _ = wr; have n0_ : Aside0 (Kd.V (Kd.int .u8) 5 wr w.heap.size (fun k_ => (P0_ k_ ∨ w.heap.size ≤ k_) ∧ some k_ ≠ (u7 : Value).ownBlock) (.slice A0 l0.length c0) l0) := ⟨by rw [← hq_]; exact (by (with_reducible repeat (first | apply Kd.V_alloc | apply Kd.V_drewN | apply Kd.V_drew)); exact HO_0.out)⟩; have n1_ : Aside0 (Kd.R (Kd.int .i64) 3 wr w.heap.size (fun k_ => (w.heap.size ≤ k_)) u7 x7_1) := ⟨by rw [← hq_]; exact (by (with_reducible repeat (first | apply Kd.R_alloc | apply Kd.R_drewN | apply Kd.R_drew)); exact HO_7.out)⟩; have n2_ : Aside0 (Kd.V (Kd.int .u8) 5 wr w.heap.size (fun k_ => (P0_ k_ ∨ w.heap.size ≤ k_) ∧ some k_ ≠ (u7 : Value).ownBlock) (.slice Ao11 Qf.length co11) Qf) := ⟨by rw [← hq_]; exact (by (with_reducible repeat (first | apply Kd.V_alloc | apply Kd.V_drewN | apply Kd.V_drew)); exact HO_8.out)⟩; have n3_ : Aside0 (Below w.heap.size w wr) := ⟨by rw [← hq_]; exact (by repeat (first | (with_reducible first | exact HB.out | apply qqc | apply qqa | apply qqb) | exact HB.out))⟩; clear HO_0 HO_7 HO_8 HB hq_; have HO_0 := n0_; have HO_7 := n1_; have HO_8 := n2_; have HB := n3_; clear n0_ n1_ n2_ n3_))
          replace HO_0 := Aside0.mk (Kd.V_drew HO_0.out)
          replace HO_7 := Aside0.mk (Kd.R_drew HO_7.out)
          replace HO_8 := Aside0.mk (Kd.V_drew HO_8.out)
          replace HB := Aside0.mk (qqb HB.out)
          have q13 : ((rd l1 Q1) : Int) ≤ ((Qf.length : Int) : Int) := of_decide_eq_true (by first | (with_reducible assumption) | assumption)
          obtain ⟨i013, hi013, _, hsz13, _⟩ := info_parts info5
          have hroom13 : Qf.length ≤ co11 := (Kd.V_reads' HO_8.out).2.1
          have hC13 : Kd.F (Kd.int .u8) _ _ Ao11 Qf.length Qf := (Kd.V_at (base := w.heap.size) HO_8.out).2.2
          have q013 : (0 : Int) ≤ ((rd l1 Q1) : Int) := of_decide_eq_true (by first | (with_reducible assumption) | assumption)
          have hcut13 := cut_from (P := Tryd.prog) 31 5 .i64 Tryd.underlying31 hi013 1 hsz13 Ao11 Qf.length co11 (rd l1 Q1) q013 q13
          have hr13 := Kd.F_cut (m := ((rd l1 Q1) : Int).toNat) (c := co11) hC13 (by omega) hroom13
          obtain ⟨A13, hA13⟩ : ∃ A1, A1 = (if co11 = ((rd l1 Q1) : Int).toNat then Ao11 else (Ao11 : Option Addr).map (·.add (((rd l1 Q1) : Int).toNat * 1))) := ⟨_, rfl⟩
          obtain ⟨c13, hc13⟩ : ∃ c1, c1 = co11 - ((rd l1 Q1) : Int).toNat := ⟨_, rfl⟩
          have hy13 : y269.length = Qf.length - ((rd l1 Q1) : Int).toNat := (by rw [Ny269.out, List.length_drop] <;> omega)
          rw [show (Qf).drop ((rd l1 Q1) : Int).toNat = y269 from Ny269.out.symm] at hr13
          replace hr13 : Kd.F (Kd.int .u8) _ _ A13 y269.length y269 := (by rw [hA13]; exact hr13)
          rw [← hy13, ← hA13, ← hc13] at hcut13
          have Qu := Aside0.mk (show Kd.V (Kd.int .u8) 5 _ w.heap.size _ (.slice A13 y269.length c13) y269 from Kd.V_mk (by rw [hy13, hc13]; exact Nat.sub_le_sub_right hroom13 _) hr13)
          have HC273 := Aside0.mk (show y269.length ≤ c13 from by rw [hy13, hc13]; exact Nat.sub_le_sub_right hroom13 _)
          clear hr13 hC13 hroom13 hi013 hsz13 hc13
          have KY13 := Aside0.mk hy13
          have KA13 := Aside0.mk hA13
          clear hy13 hA13
          replace q13 := eq_true q13
          refine start_ (n := 9) (S := fun w' => True) (ds := []) #[false, false, false, false, false, false, false, false, false] (by kernel_rfl) rfl rfl trivial (fun hHeld => ?_); refine with_tabW octets_GetAll.tab9 octets_GetAll.bits9 (fun HT_ HW_ => ?_)
          generalize wr.drew = w12 at HO_0 HO_7 HO_8 HB Qu hHeld ⊢
          refine qqy (i := 0) (N := some 29) (v := ?_) (a' := ?_) #[true, false, false, false, false, false, false, false, false] rfl rfl (qqp HT_.out (by kernel_rfl)) (fun _ _ _ h => h) (Or.inl ⟨by rfl, ?_⟩) ?_ ?_
          rotate_left
          ·intro w'
           go_simp
           with_reducible rfl
          rotate_left
          ·simp only [Act.put, qsA, qsB, qsC, qqs, qqu]
           rfl
          refine qqy (i := 1) (N := some 30) (v := ?_) (a' := ?_) #[true, true, false, false, false, false, false, false, false] rfl rfl (qqp HT_.out (by kernel_rfl)) (fun _ _ _ h => h) (Or.inl ⟨by rfl, ?_⟩) ?_ ?_
          rotate_left
          ·intro w'
           go_simp
           with_reducible rfl
          rotate_left
          ·simp only [Act.put, qsA, qsB, qsC, qqs, qqu]
           rfl
          refine qqy (i := 4) (N := some 33) (v := ?_) (a' := ?_) #[true, true, false, false, true, false, false, false, false] rfl rfl (qqp HT_.out (by kernel_rfl)) (fun _ _ _ h => h) (Or.inl ⟨by rfl, ?_⟩) ?_ ?_
          rotate_left
          ·intro w'
           go_simp
           with_reducible rfl
          rotate_left
          ·simp only [Act.put, qsA, qsB, qsC, qqs, qqu]
           rfl
          refine qqy (i := 5) (N := some 34) (v := ?_) (a' := ?_) #[true, true, false, false, true, true, false, false, false] rfl rfl (qqp HT_.out (by kernel_rfl)) (fun _ _ _ h => h) (Or.inl ⟨by rfl, ?_⟩) ?_ ?_
          rotate_left
          ·intro w'
           go_simp
           with_reducible rfl
          rotate_left
          ·simp only [Act.put, qsA, qsB, qsC, qqs, qqu]
           rfl
          refine qqy (i := 6) (N := some 35) (v := ?_) (a' := ?_) #[true, true, false, false, true, true, true, false, false] rfl rfl (qqp HT_.out (by kernel_rfl)) (fun _ _ _ h => h) (Or.inl ⟨by rfl, ?_⟩) ?_ ?_
          rotate_left
          ·intro w'
           go_simp
           with_reducible rfl
          rotate_left
          ·simp only [Act.put, qsA, qsB, qsC, qqs, qqu]
           rfl
          refine one_ (i := 2) (N := some 31) #[true, true, true, false, true, true, true, false, false] rfl rfl (one_of HT_.out (by kernel_rfl)) (by decide) (fun K hK => ?_)
          refine value_ (w1 := ?_) (v := ?_) (by rfl) rfl ?_ ?_
          rotate_left 2
          ·go_simp
           constructor
           ·rfl
           ·rfl
          refine hK.out _ _ trivial (fun hHeld => ?_)
          clear hK K
          refine norm_ (a' := ?_) ?_ ?_
          rotate_left
          ·show Act.put _ (some 31) _ = _
           simp only [Act.put, qsA, qsB, qsC, qqs, qqu]
           rfl
          refine one_ (i := 3) (N := some 32) #[true, true, true, true, true, true, true, false, false] rfl rfl (one_of HT_.out (by kernel_rfl)) (by decide) (fun K hK => ?_)
          refine Kd.R_append_step (Kd.int .i64) (w0 := w) w.heap.size (by rfl) (.tmp 29) (.tmp 31) 51 3 (.int .i64 0) 8 rfl Tryd.underlying51 info3 rfl (by decide) (by omega) u7 x7_1 t264 [.int .i64 t264] (fun k_ => (w.heap.size ≤ k_)) (fun _ => False) rfl rfl ?aP (fun _ hk => hk.elim) ?aF ?aO ?aB ?aS ?aL ?_
          (case aP => exact rfl)
          (case aB => exact (by repeat (first | (with_reducible first | exact HB.out | apply qqc | apply qqa | apply qqb) | exact HB.out)))
          (case aF => exact (fun k_ hk => (Nat.le_trans (qqt (by repeat (first | (with_reducible first | exact HB.out | apply qqc | apply qqa | apply qqb) | exact HB.out))) hk)))
          (case aO => exact (by (with_reducible repeat (first | apply Kd.R_alloc | apply Kd.R_drewN | apply Kd.R_drew)); exact HO_7.out))
          (case aS => exact (qqt (by repeat (first | (with_reducible first | exact HB.out | apply qqc | apply qqa | apply qqb) | exact HB.out))))
          (case aL => have := LMc8.out; omega)
          intro v267 w14 ho hb hg hat
          rw [← Ny266.out] at ho
          have n0_ := Aside0.mk (Kd.V_afterv (ok := (fun k_ => (P0_ k_ ∨ w.heap.size ≤ k_))) (by (with_reducible repeat (first | apply Kd.V_alloc | apply Kd.V_drewN | apply Kd.V_drew)); exact HO_0.out) hg hat)
          have n1_ := Aside0.mk (Kd.V_afterv (ok := (fun k_ => (P0_ k_ ∨ w.heap.size ≤ k_))) (by (with_reducible repeat (first | apply Kd.V_alloc | apply Kd.V_drewN | apply Kd.V_drew)); exact HO_8.out) hg hat)
          have n2_ := Aside0.mk (Kd.V_afterv (ok := (fun k_ => (P0_ k_ ∨ w.heap.size ≤ k_))) (by (with_reducible repeat (first | apply Kd.V_alloc | apply Kd.V_drewN | apply Kd.V_drew)); exact Qu.out) hg hat)
          have n3_ := Aside0.mk (hb)
          have n4_ := Aside0.mk (ho)
          clear HO_0
          clear HO_8
          clear Qu
          clear HB
          clear HO_7
          have HO_0 := n0_
          have HO_8 := n1_
          have Qu := n2_
          have HB := n3_
          have HO268 := n4_
          clear n0_ n1_ n2_ n3_ n4_
          clear ho hb hg hat
          refine hK.out _ _ trivial (fun hHeld => ?_)
          clear hK K
          refine norm_ (a' := ?_) ?_ ?_
          rotate_left
          ·show Act.put _ (some 32) _ = _
           simp only [Act.put, qsA, qsB, qsC, qqs, qqu]
           rfl
          refine qqy (i := 7) (N := some 7) (v := ?_) (a' := ?_) #[true, true, true, true, true, true, true, true, false] rfl rfl (qqp HT_.out (by kernel_rfl)) (fun _ _ _ h => h) (Or.inl ⟨by rfl, ?_⟩) ?_ ?_
          rotate_left
          ·intro w'
           go_simp
           with_reducible rfl
          rotate_left
          ·simp only [Act.put, qsA, qsB, qsC, qqs, qqu]
           rfl
          refine qqy (i := 8) (N := some 8) (v := ?_) (a' := ?_) #[true, true, true, true, true, true, true, true, true] rfl rfl (qqp HT_.out (by kernel_rfl)) (fun _ _ _ h => h) (Or.inl ⟨by rfl, ?_⟩) ?_ ?_
          rotate_left
          ·intro w'
           go_simp
           with_reducible rfl
          rotate_left
          ·simp only [Act.put, qsA, qsB, qsC, qqs, qqu]
           rfl
          refine done_ (done_of HT_.out (by kernel_rfl)) ?_
          try go_wp2
          go_roundg k1
          case measure => have := HK1.out; omega
          case rel => exact ⟨(y266), (y269), (wrap64 (Q1 + 1)), (by first | rfl | (simp; done) | (simp [*]; done)), H', ⟨by have := HK1.out; omega⟩, ⟨by (with_reducible repeat (first | apply Kd.V_alloc | apply Kd.V_drewN | apply Kd.V_drew)); exact HO_0.out⟩, ⟨by (with_reducible repeat (first | apply Kd.R_alloc | apply Kd.R_drewN | apply Kd.R_drew)); exact HO268.out⟩, ⟨by (with_reducible repeat (first | apply Kd.V_alloc | apply Kd.V_drewN | apply Kd.V_drew)); exact Qu.out⟩, ⟨by repeat (first | (with_reducible first | exact HB.out | apply qqc | apply qqa | apply qqb) | exact HB.out)⟩⟩
         ·rw [if_neg c10] at H
          exact absurd H (by simp)
        ·rw [if_neg c9] at H
         exact absurd H (by simp)
       ·rw [if_neg c8] at H
        exact absurd H (by simp)
      ·rw [if_neg c7] at H
       have c7b0 : (t265 == 0) = false := beq_eq_false_iff_ne.mpr c7
       have c7b1 : (t265 != 0) = true := bne_iff_ne.mpr c7
       simp only [Option.some.injEq, Prod.mk.injEq] at H
       obtain ⟨rfl, rfl, rfl⟩ := H
       have p263 : 0 ≤ (Q1 : Int) := of_decide_eq_true (by first | (with_reducible assumption) | assumption)
       have q263 : Q1 < (l1.length : Int) := of_decide_eq_true (by first | (with_reducible assumption) | assumption)
       obtain ⟨ad263, e263, Qi⟩ := Kd.at_int HR1.out Q1 p263 q263
       cases e263
       replace Qi := (HB.out.cell (World.block_lt_of_cell? w _ Qi)).trans Qi
       replace p263 := eq_true p263
       replace q263 := eq_true q263
       obtain ⟨Ao15, co15, eo15⟩ := Kd.V_slice HO_8.out
       subst eo15
       go_wp2_with (first | ((with_reducible refine qqo (f := 45) rfl ?_); refine goesL_ (some 23) rfl rfl Tryd.func45 (by kernel_rfl) rfl #[.slice Ao15 Qf.length co15, .int .i64 (rd l1 Q1)] rfl (by (try simp only [List.map_toArray, List.map_cons, List.map_nil]); first | done | rfl | (simp only [List.length_drop, List.length_take]; rfl)) ?_; (with_reducible refine (octets_Get.calls k1 _ _ Qf (rd l1 Q1) t264 t265 _ ?side1 ?side2 A6.out).mono ?_); (case side1 => repeat (first | exact (Kd.V_reads' HO_8.out).2.2 | (with_reducible refine Kd.C_alloc ?_ _) | (with_reducible refine Kd.C_drewN ?_ _) | (with_reducible refine Kd.C_drew ?_))); (case side2 => exact (Kd.V_reads' HO_8.out).2.1); rintro e w' ⟨rfl, ⟨nd, rfl⟩⟩; refine ⟨_, rfl, ?_⟩))
       go_ret3
       exact ⟨_, by first | rfl | (simp [qqk, qqj] <;> rfl) | (simp [*, qqk, qqj] <;> rfl), by first | exact Kd.R_nil _ _ _ _ _ | exact Kd.N_nil _ _ _ _ _ | exact Kd.V_nil _ _ _ _ _ | exact Kd.Q_nil _ _ _ _ _ | exact Kd.S_nil _ _ _ _ _, by repeat (first | (with_reducible first | exact HB.out | apply qqc | apply qqa | apply qqb) | exact HB.out)⟩
     ·rw [if_neg c5] at H
      exact absurd H (by simp)
    ·rw [if_neg c4] at H
     exact absurd H (by simp)
   ·rw [if_neg c3] at H
    have c3b0 : decide (Q1 < (l1.length : Int)) = false := decide_eq_false c3
    clear c3
    simp only [Option.some.injEq, Prod.mk.injEq] at H
    obtain ⟨rfl, rfl, rfl⟩ := H
    obtain ⟨Ao16, co16, eo16⟩ := Kd.V_slice HO_8.out
    subst eo16
    go_wp2
    go_ret3
    exact ⟨_, by first | rfl | (simp [qqk, qqj] <;> rfl) | (simp [*, qqk, qqj] <;> rfl), by (with_reducible repeat (first | apply Kd.R_alloc | apply Kd.R_drewN | apply Kd.R_drew)); exact HO_7.out, by repeat (first | (with_reducible first | exact HB.out | apply qqc | apply qqa | apply qqb) | exact HB.out)⟩
end Go.Proofs.YtpaoofkahhhjaaaDoor.All
