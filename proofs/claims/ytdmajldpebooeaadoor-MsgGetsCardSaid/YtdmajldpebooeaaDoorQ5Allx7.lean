/- Contracts of Go functions that this seat comes to, each with a plain function that tells its answers; conditions: those that each contract names. Written by a program of this session (wip/print) over the print words. -/
import Derived.Test.YtdmajldpebooeaaDoorQ5Allx0
import Derived.Test.YtdmajldpebooeaaDoorQ5Allx6
namespace Go.Proofs.YtdmajldpebooeaaDoor.All
open Go.RowKit Go.Proofs.YtdmajldpebooeaaDoorW.PrintWords Go.Proofs.YtdmajldpebooeaaDoorW.PrintLast Go.Proofs.YtdmajldpebooeaaDoorW.PrintMore
attribute [local go_sem] max2_int min2_int max_two min_two max_three min_three max_four min_four
set_option linter.unusedVariables false
set_option linter.unusedSimpArgs false
def octets_PutAll.l0 : Nat → List Int → List Int → List Int → Int → Int → Option (List Int × Int)
 | 0, _, _, _, _, _ => none
 | k + 1, x1, x6, x16, x17, x18 => if x18 < x17 then (if 0 ≤ x18 then (if x18 < (x16.length : Int) then (if x18 < (x1.length : Int) then ((octets_Put.f k (rd x16 x18) (rd x1 x18)).bind fun bt115 => (if bt115.2 = 0 then (if x6.length + bt115.1.length < 140737488355328 then (octets_PutAll.l0 k x1 (x6 ++ bt115.1) x16 x17 (wrap64 (x18 + 1))) else (none)) else (some (([] : List Int), bt115.2)))) else (none)) else (none)) else (none)) else (some (x6, 0))
def octets_PutAll.f (k : Nat) (l0 : List Int) (l1 : List Int) : Option (List Int × Int) := if (l0.length : Int) = (l1.length : Int) then (octets_PutAll.l0 k l1 ([] : List Int) l0 (l0.length : Int) 0) else (some (([] : List Int), 1))
theorem octets_PutAll.mono_l : ∀ k, (∀ y0 y1 y2 y3 y4, LeO (octets_PutAll.l0 k y0 y1 y2 y3 y4) (octets_PutAll.l0 (k + 1) y0 y1 y2 y3 y4))
 | 0 => fun _ _ _ _ _ r h => by simp [octets_PutAll.l0] at h
 | k + 1 => by
  have ih0 := octets_PutAll.mono_l k
  ·intro y0 y1 y2 y3 y4
   unfold octets_PutAll.l0
   repeat' first
   | (with_reducible exact ih0 _ _ _ _ _)
   | (with_reducible exact octets_Put.mono _ _ _)
   | (with_reducible exact LeO.refl _)
   | (with_reducible exact LeO.none _)
   | (with_reducible refine LeO.ite ?_ ?_)
   | (with_reducible refine LeO.bind ?_ (fun _ => ?_))
   | exact ih0 _ _ _ _ _
   | exact octets_Put.mono _ _ _
   | exact LeO.none _
   | refine LeO.ite ?_ ?_
   | refine LeO.bind ?_ (fun _ => ?_)
theorem octets_PutAll.mono : ∀ a0 a1 k, LeO (octets_PutAll.f k a0 a1) (octets_PutAll.f (k + 1) a0 a1) := by
 intro a0 a1 k
 have ih0 := octets_PutAll.mono_l k
 unfold octets_PutAll.f
 repeat' first
   | (with_reducible exact ih0 _ _ _ _ _)
   | (with_reducible exact octets_Put.mono _ _ _)
   | (with_reducible exact LeO.refl _)
   | (with_reducible exact LeO.none _)
   | (with_reducible refine LeO.ite ?_ ?_)
   | (with_reducible refine LeO.bind ?_ (fun _ => ?_))
   | exact ih0 _ _ _ _ _
   | exact octets_Put.mono _ _ _
   | exact LeO.none _
   | refine LeO.ite ?_ ?_
   | refine LeO.bind ?_ (fun _ => ?_)
set_option maxHeartbeats 8000000 in
set_option maxRecDepth 100000 in
theorem octets_PutAll.calls (k : Nat) (A0 : Option Addr) (c0 : Nat) (l0 : List Int) (A1 : Option Addr) (c1 : Nat) (l1 : List Int) (r1 : List Int) (r2 : Int) (w : World) (hr0 : Kd.C (Kd.int .i64) w A0 l0.length l0) (hc0 : l0.length ≤ c0) (hr1 : Kd.C (Kd.int .i64) w A1 l1.length l1) (hc1 : l1.length ≤ c1) (h : octets_PutAll.f k l0 l1 = some (r1, r2)) :
  Calls Tryd.prog 16 #[.slice A0 l0.length c0, .slice A1 l1.length c1] w fun e w' => ∃ v0_ : Value, e = .returned (.tuple #[v0_, .int .i64 r2]) ∧ Kd.R (Kd.int .u8) 5 w' w.heap.size (fun _ => True) v0_ r1 ∧ Below w.heap.size w w' := by
 have HR0 := Aside0.mk hr0
 have HC0 := Aside0.mk hc0
 clear hr0 hc0
 have HR1 := Aside0.mk hr1
 have HC1 := Aside0.mk hc1
 clear hr1 hc1
 have HB := Aside0.mk (Below.refl w.heap.size w)
 have H : (if (l0.length : Int) = (l1.length : Int) then (octets_PutAll.l0 k l1 ([] : List Int) l0 (l0.length : Int) 0) else (some (([] : List Int), 1))) = some (r1, r2) := h
 clear h
 by_cases c3 : (l0.length : Int) = (l1.length : Int)
 ·rw [if_pos c3] at H
  have c3b0 : ((l0.length : Int) == (l1.length : Int)) = true := beq_iff_eq.mpr c3
  have c3b1 : ((l0.length : Int) != (l1.length : Int)) = false := bne_eq_false_iff_eq.mpr c3
  have c3b2 : (l0.length == l1.length) = true := by first | simpa using c3 | (simp at c3 ⊢; omega)
  clear c3
  have H' := Aside0.mk H
  clear H
  go_enter Tryd.func16, Tryd.ntmps16
  go_wp2
  go_loopg [6, 18] k (fun kq v6 v18 w' => ∃ (x6_1 : List Int) (x18_1 : Int), v18 = .int .i64 x18_1 ∧ Aside0 (octets_PutAll.l0 kq l1 x6_1 l0 (l0.length : Int) x18_1 = some (r1, r2)) ∧ Aside0 (kq ≤ k) ∧ Aside0 (Kd.R (Kd.int .u8) 5 w' w.heap.size (fun _ => True) v6 x6_1) ∧ Aside0 (Below w.heap.size w w'))
  case atStart => exact ⟨(([] : List Int)), (0), (by first | rfl | (simp; done) | (simp [*]; done)), H', ⟨Nat.le_refl _⟩, ⟨by first | exact Kd.R_nil _ _ _ _ _ | exact Kd.N_nil _ _ _ _ _ | exact Kd.V_nil _ _ _ _ _ | exact Kd.Q_nil _ _ _ _ _ | exact Kd.S_nil _ _ _ _ _⟩, ⟨by repeat (first | (with_reducible first | exact HB.out | apply qqg | apply qqa | apply qqf) | exact HB.out)⟩⟩
  case round =>
   clear H'
   try clear c1
   try clear p2
   try clear c3
   try clear c3b0
   try clear c3b1
   try clear c3b2
   obtain ⟨x6_1, x18_1, rfl, HA, HK1, HO_6, HB⟩ := hrel
   cases gk with
   | zero => exact absurd HA.out (by simp [octets_PutAll.l0])
   | succ k1 =>
    have H := HA.out
    clear HA
    simp only [octets_PutAll.l0] at H
    by_cases c4 : x18_1 < (l0.length : Int)
    ·rw [if_pos c4] at H
     have c4b0 : decide (x18_1 < (l0.length : Int)) = true := decide_eq_true c4
     clear c4
     by_cases c5 : 0 ≤ x18_1
     ·rw [if_pos c5] at H
      have c5b0 : decide (0 ≤ x18_1) = true := decide_eq_true c5
      clear c5
      by_cases c6 : x18_1 < (l0.length : Int)
      ·rw [if_pos c6] at H
       have c6b0 : decide (x18_1 < (l0.length : Int)) = true := decide_eq_true c6
       clear c6
       by_cases c7 : x18_1 < (l1.length : Int)
       ·rw [if_pos c7] at H
        have c7b0 : decide (x18_1 < (l1.length : Int)) = true := decide_eq_true c7
        clear c7
        replace H := Option.bind_eq_some_iff.mp H
        obtain ⟨⟨t115, t116⟩, A80, H⟩ := H
        replace H : (if t116 = 0 then (if x6_1.length + t115.length < 140737488355328 then (octets_PutAll.l0 k1 l1 (x6_1 ++ t115) l0 (l0.length : Int) (wrap64 (x18_1 + 1))) else (none)) else (some (([] : List Int), t116))) = some (r1, r2) := H
        have A8 := Aside0.mk A80
        clear A80
        by_cases c9 : t116 = 0
        ·rw [if_pos c9] at H
         have c9b0 : (t116 == 0) = true := beq_iff_eq.mpr c9
         have c9b1 : (t116 != 0) = false := bne_eq_false_iff_eq.mpr c9
         clear c9
         by_cases c10 : x6_1.length + t115.length < 140737488355328
         ·rw [if_pos c10] at H
          have LMc10 := Aside0.mk c10
          clear c10
          obtain ⟨y119, hy119⟩ : ∃ y_ : List Int, y_ = (x6_1 ++ t115) := ⟨_, rfl⟩
          replace H : (octets_PutAll.l0 k1 l1 y119 l0 (l0.length : Int) (wrap64 (x18_1 + 1))) = some (r1, r2) := by first | (rw [hy119]; with_reducible exact H) | (have H2_ := (Option.bind_some _ _).symm.trans H; rw [hy119]; with_reducible exact H2_) | (have H2_ := (Option.bind_some _ _).symm.trans H; with_reducible exact H2_) | with_reducible exact H | (rw [hy119]; exact H) | exact H
          have Ny119 := Aside0.mk hy119
          clear hy119
          have H' := Aside0.mk H
          clear H
          have p113 : 0 ≤ (x18_1 : Int) := of_decide_eq_true (by first | (with_reducible assumption) | assumption)
          have q113 : x18_1 < (l0.length : Int) := of_decide_eq_true (by first | (with_reducible assumption) | assumption)
          obtain ⟨ad113, e113, hx113_0⟩ := Kd.at_int HR0.out x18_1 p113 q113
          cases e113
          replace hx113_0 := (HB.out.cell (World.block_lt_of_cell? w _ hx113_0)).trans hx113_0
          replace p113 := eq_true p113
          replace q113 := eq_true q113
          have p114 : 0 ≤ (x18_1 : Int) := of_decide_eq_true (by first | (with_reducible assumption) | assumption)
          have q114 : x18_1 < (l1.length : Int) := of_decide_eq_true (by first | (with_reducible assumption) | assumption)
          obtain ⟨ad114, e114, hx114_0⟩ := Kd.at_int HR1.out x18_1 p114 q114
          cases e114
          replace hx114_0 := (HB.out.cell (World.block_lt_of_cell? w _ hx114_0)).trans hx114_0
          replace p114 := eq_true p114
          replace q114 := eq_true q114
          go_wp2_with (first | ((with_reducible refine qqv (f := 27) rfl ?_); refine goesL_ (some 29) rfl rfl Tryd.func27 (by kernel_rfl) rfl #[.int .i64 (rd l0 x18_1), .int .i64 (rd l1 x18_1)] rfl (by (try simp only [List.map_toArray, List.map_cons, List.map_nil]); first | done | rfl | (simp only [List.length_drop, List.length_take]; rfl)) ?_; (with_reducible refine (octets_Put.calls k1 (rd l0 x18_1) (rd l1 x18_1) t115 t116 _ A8.out).mono ?_); rintro e w11 ⟨v117, rfl, ho0, hb⟩; refine ⟨_, rfl, ?_⟩; have n0_ := Aside0.mk (Kd.R_elder' (by (with_reducible repeat (first | apply Kd.R_alloc | apply Kd.R_drewN | apply Kd.R_drew)); exact HO_6.out) (Kd.R_base ho0) hb); have n1_ := Aside0.mk (Kd.R_lower (Kd.R_new' ho0 (Kd.R_lt (by (with_reducible repeat (first | apply Kd.R_alloc | apply Kd.R_drewN | apply Kd.R_drew)); exact HO_6.out))) (qqk (by repeat (first | (with_reducible first | exact HB.out | apply qqg | apply qqa | apply qqf) | exact HB.out)))); have n2_ := Aside0.mk (qqj (by repeat (first | (with_reducible first | exact HB.out | apply qqg | apply qqa | apply qqf) | exact HB.out)) hb); clear HO_6; clear HB; have HO_6 := n0_; have HO118 := n1_; have HB := n2_; clear n0_ n1_ n2_; (try clear hb); (try clear hb2); (try clear hk); (try clear hi); (try clear ho0); obtain ⟨Ao13, co13, eo13⟩ := Kd.R_slice HO118.out; subst eo13) | ((with_reducible refine gate_builtin (b := .append) (xs := #[.tmp 35, .tmp 36]) rfl ?_); at_builtin; refine Kd.R_append_rows (Kd.int .u8) (w0 := w) w.heap.size rfl (.tmp 35) (.tmp 36) 31 5 (.int .u8 0) 1 rfl Tryd.underlying31 info5 rfl (by decide) (by omega) u6 x6_1 t115 _ _ _ (fun k_ => some k_ ≠ (.slice Ao13 t115.length co13 : Value).ownBlock) (fun _ => False) rfl rfl ?aO ?aR (fun _ _ h => h) (fun _ h => h.elim) ?aF ?aB ?aS ?aL ?_; (case aR => repeat (first | exact (Kd.R_reads' HO118.out).2.2 | (with_reducible refine Kd.C_alloc ?_ _) | (with_reducible refine Kd.C_drewN ?_ _) | (with_reducible refine Kd.C_drew ?_))); (case aB => exact (by repeat (first | (with_reducible first | exact HB.out | apply qqg | apply qqa | apply qqf) | exact HB.out))); (case aF => exact (fun k_ hk => Kd.fresh' (Kd.R_lt (by (with_reducible repeat (first | apply Kd.R_alloc | apply Kd.R_drewN | apply Kd.R_drew)); exact HO118.out)) k_ hk)); (case aO => exact (by (with_reducible repeat (first | apply Kd.R_alloc | apply Kd.R_drewN | apply Kd.R_drew)); exact Kd.R_mono HO_6.out (fun _ hk => hk.2))); (case aS => exact (qqk (by repeat (first | (with_reducible first | exact HB.out | apply qqg | apply qqa | apply qqf) | exact HB.out)))); (case aL => have := LMc10.out; omega); intro v120 w12 ho hb hg hat; rw [← Ny119.out] at ho; have n0_ := Aside0.mk (Kd.R_after (ok := (fun _ => True)) (by (with_reducible repeat (first | apply Kd.R_alloc | apply Kd.R_drewN | apply Kd.R_drew)); exact HO118.out) hg hat); have n1_ := Aside0.mk (hb); have n2_ := Aside0.mk (ho); clear HO118; clear HB; clear HO_6; have HO118 := n0_; have HB := n1_; have HO121 := n2_; clear n0_ n1_ n2_; clear ho hb hg hat))
          go_roundg k1
          case measure => have := HK1.out; omega
          case rel => exact ⟨(y119), (wrap64 (x18_1 + 1)), (by first | rfl | (simp; done) | (simp [*]; done)), H', ⟨by have := HK1.out; omega⟩, ⟨by (with_reducible repeat (first | apply Kd.R_alloc | apply Kd.R_drewN | apply Kd.R_drew)); exact Kd.R_mono HO121.out (fun _ hk => trivial)⟩, ⟨by repeat (first | (with_reducible first | exact HB.out | apply qqg | apply qqa | apply qqf) | exact HB.out)⟩⟩
         ·rw [if_neg c10] at H
          exact absurd H (by simp)
        ·rw [if_neg c9] at H
         have c9b0 : (t116 == 0) = false := beq_eq_false_iff_ne.mpr c9
         have c9b1 : (t116 != 0) = true := bne_iff_ne.mpr c9
         simp only [Option.some.injEq, Prod.mk.injEq] at H
         obtain ⟨rfl, rfl⟩ := H
         have p113 : 0 ≤ (x18_1 : Int) := of_decide_eq_true (by first | (with_reducible assumption) | assumption)
         have q113 : x18_1 < (l0.length : Int) := of_decide_eq_true (by first | (with_reducible assumption) | assumption)
         obtain ⟨ad113, e113, hx113_0⟩ := Kd.at_int HR0.out x18_1 p113 q113
         cases e113
         replace hx113_0 := (HB.out.cell (World.block_lt_of_cell? w _ hx113_0)).trans hx113_0
         replace p113 := eq_true p113
         replace q113 := eq_true q113
         have p114 : 0 ≤ (x18_1 : Int) := of_decide_eq_true (by first | (with_reducible assumption) | assumption)
         have q114 : x18_1 < (l1.length : Int) := of_decide_eq_true (by first | (with_reducible assumption) | assumption)
         obtain ⟨ad114, e114, hx114_0⟩ := Kd.at_int HR1.out x18_1 p114 q114
         cases e114
         replace hx114_0 := (HB.out.cell (World.block_lt_of_cell? w _ hx114_0)).trans hx114_0
         replace p114 := eq_true p114
         replace q114 := eq_true q114
         go_wp2_with (first | ((with_reducible refine qqv (f := 27) rfl ?_); refine goesL_ (some 29) rfl rfl Tryd.func27 (by kernel_rfl) rfl #[.int .i64 (rd l0 x18_1), .int .i64 (rd l1 x18_1)] rfl (by (try simp only [List.map_toArray, List.map_cons, List.map_nil]); first | done | rfl | (simp only [List.length_drop, List.length_take]; rfl)) ?_; (with_reducible refine (octets_Put.calls k1 (rd l0 x18_1) (rd l1 x18_1) t115 t116 _ A8.out).mono ?_); rintro e w14 ⟨v117, rfl, ho0, hb⟩; refine ⟨_, rfl, ?_⟩; have n0_ := Aside0.mk (Kd.R_elder' (by (with_reducible repeat (first | apply Kd.R_alloc | apply Kd.R_drewN | apply Kd.R_drew)); exact HO_6.out) (Kd.R_base ho0) hb); have n1_ := Aside0.mk (Kd.R_lower (Kd.R_new' ho0 (Kd.R_lt (by (with_reducible repeat (first | apply Kd.R_alloc | apply Kd.R_drewN | apply Kd.R_drew)); exact HO_6.out))) (qqk (by repeat (first | (with_reducible first | exact HB.out | apply qqg | apply qqa | apply qqf) | exact HB.out)))); have n2_ := Aside0.mk (qqj (by repeat (first | (with_reducible first | exact HB.out | apply qqg | apply qqa | apply qqf) | exact HB.out)) hb); clear HO_6; clear HB; have HO_6 := n0_; have HO118 := n1_; have HB := n2_; clear n0_ n1_ n2_; (try clear hb); (try clear hb2); (try clear hk); (try clear hi); (try clear ho0)))
         go_ret2
         exact ⟨_, by first | rfl | (simp [qqo, qqn] <;> rfl) | (simp [*, qqo, qqn] <;> rfl), by first | exact Kd.R_nil _ _ _ _ _ | exact Kd.N_nil _ _ _ _ _ | exact Kd.V_nil _ _ _ _ _ | exact Kd.Q_nil _ _ _ _ _ | exact Kd.S_nil _ _ _ _ _, by repeat (first | (with_reducible first | exact HB.out | apply qqg | apply qqa | apply qqf) | exact HB.out)⟩
       ·rw [if_neg c7] at H
        exact absurd H (by simp)
      ·rw [if_neg c6] at H
       exact absurd H (by simp)
     ·rw [if_neg c5] at H
      exact absurd H (by simp)
    ·rw [if_neg c4] at H
     have c4b0 : decide (x18_1 < (l0.length : Int)) = false := decide_eq_false c4
     clear c4
     simp only [Option.some.injEq, Prod.mk.injEq] at H
     obtain ⟨rfl, rfl⟩ := H
     go_wp2
     go_ret2
     exact ⟨_, by first | rfl | (simp [qqo, qqn] <;> rfl) | (simp [*, qqo, qqn] <;> rfl), by (with_reducible repeat (first | apply Kd.R_alloc | apply Kd.R_drewN | apply Kd.R_drew)); exact HO_6.out, by repeat (first | (with_reducible first | exact HB.out | apply qqg | apply qqa | apply qqf) | exact HB.out)⟩
 ·rw [if_neg c3] at H
  have c3b0 : ((l0.length : Int) == (l1.length : Int)) = false := beq_eq_false_iff_ne.mpr c3
  have c3b1 : ((l0.length : Int) != (l1.length : Int)) = true := bne_iff_ne.mpr c3
  have c3b2 : (l0.length == l1.length) = false := by first | simpa using c3 | (simp at c3 ⊢; omega)
  simp only [Option.some.injEq, Prod.mk.injEq] at H
  obtain ⟨rfl, rfl⟩ := H
  go_enter Tryd.func16, Tryd.ntmps16
  go_wp2
  go_ret2
  exact ⟨_, by first | rfl | (simp [qqo, qqn] <;> rfl) | (simp [*, qqo, qqn] <;> rfl), by first | exact Kd.R_nil _ _ _ _ _ | exact Kd.N_nil _ _ _ _ _ | exact Kd.V_nil _ _ _ _ _ | exact Kd.Q_nil _ _ _ _ _ | exact Kd.S_nil _ _ _ _ _, by repeat (first | (with_reducible first | exact HB.out | apply qqg | apply qqa | apply qqf) | exact HB.out)⟩
def rule_Put.f (k : Nat) (a0_0 : Int) (a0_1 : Int) (a0_2 : Int) (a0_3 : Int) (a0_4 : Int) (a0_5 : Int) : Option (List Int × Int) := (rule_May.f a0_0 a0_1 a0_2 a0_3 a0_4 a0_5).bind fun t123 => (if t123 = true then ((octets_Put.f k a0_0 4).bind fun bt124 => ((some (([(a0_1) % 256, (wrap64 (a0_2 + 1)) % 256, (a0_3) % 256, (a0_4) % 256, (a0_5) % 256] : List Int) : List Int)).bind fun y128 => (if bt124.1.length + y128.length < 140737488355328 then (some ((bt124.1 ++ y128), bt124.2)) else (none)))) else (some (([] : List Int), 1)))
theorem rule_Put.mono : ∀ a0 a1 a2 a3 a4 a5 k, LeO (rule_Put.f k a0 a1 a2 a3 a4 a5) (rule_Put.f (k + 1) a0 a1 a2 a3 a4 a5) := by
 intro a0 a1 a2 a3 a4 a5 k
 unfold rule_Put.f
 repeat' first
   | (with_reducible exact octets_Put.mono _ _ _)
   | (with_reducible exact LeO.refl _)
   | (with_reducible exact LeO.none _)
   | (with_reducible refine LeO.ite ?_ ?_)
   | (with_reducible refine LeO.bind ?_ (fun _ => ?_))
   | exact octets_Put.mono _ _ _
   | exact LeO.none _
   | refine LeO.ite ?_ ?_
   | refine LeO.bind ?_ (fun _ => ?_)
set_option maxHeartbeats 8000000 in
set_option maxRecDepth 100000 in
theorem rule_Put.calls (k : Nat) (a0_0 : Int) (a0_1 : Int) (a0_2 : Int) (a0_3 : Int) (a0_4 : Int) (a0_5 : Int) (r1 : List Int) (r2 : Int) (w : World) (h : rule_Put.f k a0_0 a0_1 a0_2 a0_3 a0_4 a0_5 = some (r1, r2)) :
  Calls Tryd.prog 17 #[.agg #[.int .i64 a0_0, .int .i64 a0_1, .int .i64 a0_2, .int .i64 a0_3, .int .i64 a0_4, .int .i64 a0_5]] w fun e w' => ∃ v0_ : Value, e = .returned (.tuple #[v0_, .int .i64 r2]) ∧ Kd.R (Kd.int .u8) 5 w' w.heap.size (fun _ => True) v0_ r1 ∧ Below w.heap.size w w' := by
 have hu27 := Tryd.underlying27
 have HB := Aside0.mk (Below.refl w.heap.size w)
 have H : ((rule_May.f a0_0 a0_1 a0_2 a0_3 a0_4 a0_5).bind fun t123 => (if t123 = true then ((octets_Put.f k a0_0 4).bind fun bt124 => ((some (([(a0_1) % 256, (wrap64 (a0_2 + 1)) % 256, (a0_3) % 256, (a0_4) % 256, (a0_5) % 256] : List Int) : List Int)).bind fun y128 => (if bt124.1.length + y128.length < 140737488355328 then (some ((bt124.1 ++ y128), bt124.2)) else (none)))) else (some (([] : List Int), 1)))) = some (r1, r2) := h
 clear h
 replace H := Option.bind_eq_some_iff.mp H
 obtain ⟨t123, A20, H⟩ := H
 replace H : (if t123 = true then ((octets_Put.f k a0_0 4).bind fun bt124 => ((some (([(a0_1) % 256, (wrap64 (a0_2 + 1)) % 256, (a0_3) % 256, (a0_4) % 256, (a0_5) % 256] : List Int) : List Int)).bind fun y128 => (if bt124.1.length + y128.length < 140737488355328 then (some ((bt124.1 ++ y128), bt124.2)) else (none)))) else (some (([] : List Int), 1))) = some (r1, r2) := H
 have A2 := Aside0.mk A20
 clear A20
 by_cases c3 : t123 = true
 ·subst c3
  have H1 : ((octets_Put.f k a0_0 4).bind fun bt124 => ((some (([(a0_1) % 256, (wrap64 (a0_2 + 1)) % 256, (a0_3) % 256, (a0_4) % 256, (a0_5) % 256] : List Int) : List Int)).bind fun y128 => (if bt124.1.length + y128.length < 140737488355328 then (some ((bt124.1 ++ y128), bt124.2)) else (none)))) = some (r1, r2) := by rw [if_pos rfl] at H; exact H
  clear H
  have H := H1
  clear H1
  replace H := Option.bind_eq_some_iff.mp H
  obtain ⟨⟨t124, t125⟩, A40, H⟩ := H
  replace H : ((some (([(a0_1) % 256, (wrap64 (a0_2 + 1)) % 256, (a0_3) % 256, (a0_4) % 256, (a0_5) % 256] : List Int) : List Int)).bind fun y128 => (if t124.length + y128.length < 140737488355328 then (some ((t124 ++ y128), t125)) else (none))) = some (r1, r2) := H
  have A4 := Aside0.mk A40
  clear A40
  obtain ⟨y128, hy128⟩ : ∃ y_ : List Int, y_ = (([(a0_1) % 256, (wrap64 (a0_2 + 1)) % 256, (a0_3) % 256, (a0_4) % 256, (a0_5) % 256] : List Int)) := ⟨_, rfl⟩
  replace H : (if t124.length + y128.length < 140737488355328 then (some ((t124 ++ y128), t125)) else (none)) = some (r1, r2) := by first | (rw [hy128]; with_reducible exact H) | (have H2_ := (Option.bind_some _ _).symm.trans H; rw [hy128]; with_reducible exact H2_) | (have H2_ := (Option.bind_some _ _).symm.trans H; with_reducible exact H2_) | with_reducible exact H | (rw [hy128]; exact H) | exact H
  have Ny128 := Aside0.mk hy128
  clear hy128
  by_cases c5 : t124.length + y128.length < 140737488355328
  ·rw [if_pos c5] at H
   have LMc5 := Aside0.mk c5
   clear c5
   obtain ⟨y131, hy131⟩ : ∃ y_ : List Int, y_ = (t124 ++ y128) := ⟨_, rfl⟩
   replace H : (some (y131, t125)) = some (r1, r2) := by first | (rw [hy131]; with_reducible exact H) | (have H2_ := (Option.bind_some _ _).symm.trans H; rw [hy131]; with_reducible exact H2_) | (have H2_ := (Option.bind_some _ _).symm.trans H; with_reducible exact H2_) | with_reducible exact H | (rw [hy131]; exact H) | exact H
   have Ny131 := Aside0.mk hy131
   clear hy131
   simp only [Option.some.injEq, Prod.mk.injEq] at H
   obtain ⟨rfl, rfl⟩ := H
   go_enter Tryd.func17, Tryd.ntmps17
   go_wp2_with (first | ((with_reducible refine qqx (N := 1) rfl ?_); refine box_event ?hg (N := 1) ?hd (cs := #[.int .i64 a0_0, .int .i64 a0_1, .int .i64 a0_2, .int .i64 a0_3, .int .i64 a0_4, .int .i64 a0_5]) (t := 27) ?hr ?_; (case hd => rfl); (case hg => rfl); (case hr => first | (go_simp; done) | (go_simp; rfl)); intro gb122 hg w6 hbox hb; have n0_ := Aside0.mk (qqj (by repeat (first | (with_reducible first | exact HB.out | apply qqg | apply qqa | apply qqf) | exact HB.out)) hb); have n1_ := Aside0.mk (hbox); have n2_ := Aside0.mk ((by rw [hg]; exact (qqk (by repeat (first | (with_reducible first | exact HB.out | apply qqg | apply qqa | apply qqf) | exact HB.out))) : w.heap.size ≤ gb122)); have n3_ := Aside0.mk ((by rw [hg]; exact (qqk (by repeat (first | (with_reducible first | exact HB.out | apply qqg | apply qqa | apply qqf) | exact HB.out))) : w.heap.size ≤ gb122)); clear HB; have HB := n0_; have BK122 := n1_; have GW122 := n2_; have GE122 := n3_; clear n0_ n1_ n2_ n3_; clear hb hbox hg; obtain ⟨hcz7_0, hcz7_1, hcz7_2, hcz7_3, hcz7_4, hcz7_5⟩ := bcells6 BK122.out; obtain ⟨hfz7_0, hfz7_1, hfz7_2, hfz7_3, hfz7_4, hfz7_5⟩ := bfrozen6 BK122.out) | ((with_reducible refine qqv (f := 21) rfl ?_); refine goesL_ (some 7) rfl rfl Tryd.func21 (by kernel_rfl) rfl #[.agg #[.int .i64 a0_0, .int .i64 a0_1, .int .i64 a0_2, .int .i64 a0_3, .int .i64 a0_4, .int .i64 a0_5]] rfl (by (try simp only [List.map_toArray, List.map_cons, List.map_nil]); first | done | rfl | (simp only [List.length_drop, List.length_take]; rfl)) ?_; (with_reducible refine (rule_May.calls a0_0 a0_1 a0_2 a0_3 a0_4 a0_5 true _ A2.out).mono ?_); rintro e w8 ⟨rfl, hb⟩; refine ⟨_, rfl, ?_⟩; have n0_ := Aside0.mk (qqm (g := gb122) (o := .cells #[.int .i64 a0_0, .int .i64 a0_1, .int .i64 a0_2, .int .i64 a0_3, .int .i64 a0_4, .int .i64 a0_5] 27 (0, 0)) (by (with_reducible repeat (first | refine qqc ?_ _ | refine qqe ?_ | refine qqd ?_ _)); exact BK122.out) hb); have n1_ := Aside0.mk (qqj (by repeat (first | (with_reducible first | exact HB.out | apply qqg | apply qqa | apply qqf | refine qqh ?_ GE122.out) | exact HB.out)) hb); clear BK122; clear HB; have BK122 := n0_; have HB := n1_; clear n0_ n1_; (try clear hb); (try clear hb2); (try clear hk); (try clear hi); obtain ⟨hcz9_0, hcz9_1, hcz9_2, hcz9_3, hcz9_4, hcz9_5⟩ := bcells6 BK122.out; obtain ⟨hfz9_0, hfz9_1, hfz9_2, hfz9_3, hfz9_4, hfz9_5⟩ := bfrozen6 BK122.out) | ((with_reducible refine qqv (f := 27) rfl ?_); refine goesL_ (some 13) rfl rfl Tryd.func27 (by kernel_rfl) rfl #[.int .i64 a0_0, .int .i64 4] rfl (by (try simp only [List.map_toArray, List.map_cons, List.map_nil]); first | done | rfl | (simp only [List.length_drop, List.length_take]; rfl)) ?_; (with_reducible refine (octets_Put.calls k a0_0 4 t124 t125 _ A4.out).mono ?_); rintro e w10 ⟨v126, rfl, ho0, hb⟩; refine ⟨_, rfl, ?_⟩; have n0_ := Aside0.mk (Kd.R_lower ho0 (qqk (by repeat (first | (with_reducible first | exact HB.out | apply qqg | apply qqa | apply qqf | refine qqh ?_ GE122.out) | exact HB.out)))); have n1_ := Aside0.mk (qqm (g := gb122) (o := .cells #[.int .i64 a0_0, .int .i64 a0_1, .int .i64 a0_2, .int .i64 a0_3, .int .i64 a0_4, .int .i64 a0_5] 27 (0, 0)) (by (with_reducible repeat (first | refine qqc ?_ _ | refine qqe ?_ | refine qqd ?_ _)); exact BK122.out) hb); have n2_ := Aside0.mk (qqj (by repeat (first | (with_reducible first | exact HB.out | apply qqg | apply qqa | apply qqf | refine qqh ?_ GE122.out) | exact HB.out)) hb); clear BK122; clear HB; have HO127 := n0_; have BK122 := n1_; have HB := n2_; clear n0_ n1_ n2_; (try clear hb); (try clear hb2); (try clear hk); (try clear hi); (try clear ho0); obtain ⟨hcz11_0, hcz11_1, hcz11_2, hcz11_3, hcz11_4, hcz11_5⟩ := bcells6 BK122.out; obtain ⟨hfz11_0, hfz11_1, hfz11_2, hfz11_3, hfz11_4, hfz11_5⟩ := bfrozen6 BK122.out) | ((with_reducible refine qqx (N := 36) rfl ?_); refine Kd.R_lit (Kd.int .u8) _ 5 ?hg (N := 36) ?hd (xs := ([(a0_1) % 256, (wrap64 (a0_2 + 1)) % 256, (a0_3) % 256, (a0_4) % 256, (a0_5) % 256] : List Int)) (inner := [.int .u8 ((a0_1) % 256), .int .u8 ((wrap64 (a0_2 + 1)) % 256), .int .u8 ((a0_3) % 256), .int .u8 ((a0_4) % 256), .int .u8 ((a0_5) % 256)]) (ok := fun _ => True) (okp := fun _ => True) ?hr ?hp (fun _ hk => hk) trivial (Below.refl _ _) (Nat.le_refl _) (by simp) ?_; (case hd => rfl); (case hg => rfl); (case hr => first | (go_simp; done) | (go_simp; rfl)); (case hp => exact (Reps.one (show Kd.M (Kd.int .u8) _ _ _ ((a0_1) % 256) [.int .u8 ((a0_1) % 256)] from rfl) (Reps.one (show Kd.M (Kd.int .u8) _ _ _ ((wrap64 (a0_2 + 1)) % 256) [.int .u8 ((wrap64 (a0_2 + 1)) % 256)] from rfl) (Reps.one (show Kd.M (Kd.int .u8) _ _ _ ((a0_3) % 256) [.int .u8 ((a0_3) % 256)] from rfl) (Reps.one (show Kd.M (Kd.int .u8) _ _ _ ((a0_4) % 256) [.int .u8 ((a0_4) % 256)] from rfl) (Reps.one (show Kd.M (Kd.int .u8) _ _ _ ((a0_5) % 256) [.int .u8 ((a0_5) % 256)] from rfl) (Reps.none _ _))))))); intro v129 w12 ho13 hb hg_ hnew_; clear hg_ hnew_; (first | rw [← Ny128.out] at ho13 | (simp only [Int.reduceToNat] at ho13; rw [← Ny128.out] at ho13)); have n0_ := Aside0.mk (Kd.R_elder' (by (with_reducible repeat (first | apply Kd.R_alloc | apply Kd.R_drewN | apply Kd.R_drew)); exact HO127.out) (Kd.R_base ho13) hb); have n1_ := Aside0.mk (Kd.R_lower (Kd.R_new' ho13 (Kd.R_lt (by (with_reducible repeat (first | apply Kd.R_alloc | apply Kd.R_drewN | apply Kd.R_drew)); exact HO127.out))) (qqk (by repeat (first | (with_reducible first | exact HB.out | apply qqg | apply qqa | apply qqf | refine qqh ?_ GE122.out) | exact HB.out)))); have n2_ := Aside0.mk (qqm (g := gb122) (o := .cells #[.int .i64 a0_0, .int .i64 a0_1, .int .i64 a0_2, .int .i64 a0_3, .int .i64 a0_4, .int .i64 a0_5] 27 (0, 0)) (by (with_reducible repeat (first | refine qqc ?_ _ | refine qqe ?_ | refine qqd ?_ _)); exact BK122.out) hb); have n3_ := Aside0.mk (qqj (by repeat (first | (with_reducible first | exact HB.out | apply qqg | apply qqa | apply qqf | refine qqh ?_ GE122.out) | exact HB.out)) hb); clear HO127; clear BK122; clear HB; have HO127 := n0_; have HO130 := n1_; have BK122 := n2_; have HB := n3_; clear n0_ n1_ n2_ n3_; clear hb ho13; obtain ⟨Ao15, co15, eo15⟩ := Kd.R_slice HO130.out; subst eo15) | ((with_reducible refine gate_builtin (b := .append) (xs := #[.tmp 16, .tmp 36]) rfl ?_); at_builtin; refine Kd.R_append_rows (Kd.int .u8) (w0 := w) w.heap.size rfl (.tmp 16) (.tmp 36) 31 5 (.int .u8 0) 1 rfl Tryd.underlying31 info5 rfl (by decide) (by omega) v126 t124 y128 _ _ _ (fun k_ => some k_ ≠ (.slice Ao15 y128.length co15 : Value).ownBlock) (fun _ => False) rfl rfl ?aO ?aR (fun _ _ h => h) (fun _ h => h.elim) ?aF ?aB ?aS ?aL ?_; (case aR => repeat (first | exact (Kd.R_reads' HO130.out).2.2 | (with_reducible refine Kd.C_alloc ?_ _) | (with_reducible refine Kd.C_drewN ?_ _) | (with_reducible refine Kd.C_drew ?_))); (case aB => exact (by repeat (first | (with_reducible first | exact HB.out | apply qqg | apply qqa | apply qqf | refine qqh ?_ GE122.out) | exact HB.out))); (case aF => exact (fun k_ hk => Kd.fresh' (Kd.R_lt (by (with_reducible repeat (first | apply Kd.R_alloc | apply Kd.R_drewN | apply Kd.R_drew)); exact HO130.out)) k_ hk)); (case aO => exact (by (with_reducible repeat (first | apply Kd.R_alloc | apply Kd.R_drewN | apply Kd.R_drew)); exact Kd.R_mono HO127.out (fun _ hk => hk.2))); (case aS => exact (qqk (by repeat (first | (with_reducible first | exact HB.out | apply qqg | apply qqa | apply qqf | refine qqh ?_ GE122.out) | exact HB.out)))); (case aL => have := LMc5.out; omega); intro v132 w14 ho hb hg hat; rw [← Ny131.out] at ho; have n0_ := Aside0.mk (blk_grown (g := gb122) (o := .cells #[.int .i64 a0_0, .int .i64 a0_1, .int .i64 a0_2, .int .i64 a0_3, .int .i64 a0_4, .int .i64 a0_5] 27 (0, 0)) (by (with_reducible repeat (first | refine qqc ?_ _ | refine qqe ?_ | refine qqd ?_ _)); exact BK122.out) hg (Kd.R_ne HO127.out BK122.out (by decide))); have n1_ := Aside0.mk (Kd.R_after (ok := (fun _ => True)) (by (with_reducible repeat (first | apply Kd.R_alloc | apply Kd.R_drewN | apply Kd.R_drew)); exact HO130.out) hg hat); have n2_ := Aside0.mk (hb); have n3_ := Aside0.mk (ho); clear BK122; clear HO130; clear HB; clear HO127; have BK122 := n0_; have HO130 := n1_; have HB := n2_; have HO133 := n3_; clear n0_ n1_ n2_ n3_; clear ho hb hg hat))
   go_ret2
   exact ⟨_, by first | rfl | (simp [qqo, qqn] <;> rfl) | (simp [*, qqo, qqn] <;> rfl), by (with_reducible repeat (first | apply Kd.R_alloc | apply Kd.R_drewN | apply Kd.R_drew)); exact Kd.R_mono HO133.out (fun _ hk => trivial), by repeat (first | (with_reducible first | exact HB.out | apply qqg | apply qqa | apply qqf | refine qqh ?_ GE122.out) | exact HB.out)⟩
  ·rw [if_neg c5] at H
   exact absurd H (by simp)
 ·replace c3 := Bool.eq_false_iff.mpr c3
  subst c3
  have H1 : (some (([] : List Int), 1)) = some (r1, r2) := by rw [if_neg (show ¬ (false = true) by decide)] at H; exact H
  clear H
  have H := H1
  clear H1
  simp only [Option.some.injEq, Prod.mk.injEq] at H
  obtain ⟨rfl, rfl⟩ := H
  go_enter Tryd.func17, Tryd.ntmps17
  go_wp2_with (first | ((with_reducible refine qqx (N := 1) rfl ?_); refine box_event ?hg (N := 1) ?hd (cs := #[.int .i64 a0_0, .int .i64 a0_1, .int .i64 a0_2, .int .i64 a0_3, .int .i64 a0_4, .int .i64 a0_5]) (t := 27) ?hr ?_; (case hd => rfl); (case hg => rfl); (case hr => first | (go_simp; done) | (go_simp; rfl)); intro gb122 hg w16 hbox hb; have n0_ := Aside0.mk (qqj (by repeat (first | (with_reducible first | exact HB.out | apply qqg | apply qqa | apply qqf) | exact HB.out)) hb); have n1_ := Aside0.mk (hbox); have n2_ := Aside0.mk ((by rw [hg]; exact (qqk (by repeat (first | (with_reducible first | exact HB.out | apply qqg | apply qqa | apply qqf) | exact HB.out))) : w.heap.size ≤ gb122)); have n3_ := Aside0.mk ((by rw [hg]; exact (qqk (by repeat (first | (with_reducible first | exact HB.out | apply qqg | apply qqa | apply qqf) | exact HB.out))) : w.heap.size ≤ gb122)); clear HB; have HB := n0_; have BK122 := n1_; have GW122 := n2_; have GE122 := n3_; clear n0_ n1_ n2_ n3_; clear hb hbox hg; obtain ⟨hcz17_0, hcz17_1, hcz17_2, hcz17_3, hcz17_4, hcz17_5⟩ := bcells6 BK122.out; obtain ⟨hfz17_0, hfz17_1, hfz17_2, hfz17_3, hfz17_4, hfz17_5⟩ := bfrozen6 BK122.out) | ((with_reducible refine qqv (f := 21) rfl ?_); refine goesL_ (some 7) rfl rfl Tryd.func21 (by kernel_rfl) rfl #[.agg #[.int .i64 a0_0, .int .i64 a0_1, .int .i64 a0_2, .int .i64 a0_3, .int .i64 a0_4, .int .i64 a0_5]] rfl (by (try simp only [List.map_toArray, List.map_cons, List.map_nil]); first | done | rfl | (simp only [List.length_drop, List.length_take]; rfl)) ?_; (with_reducible refine (rule_May.calls a0_0 a0_1 a0_2 a0_3 a0_4 a0_5 false _ A2.out).mono ?_); rintro e w18 ⟨rfl, hb⟩; refine ⟨_, rfl, ?_⟩; have n0_ := Aside0.mk (qqm (g := gb122) (o := .cells #[.int .i64 a0_0, .int .i64 a0_1, .int .i64 a0_2, .int .i64 a0_3, .int .i64 a0_4, .int .i64 a0_5] 27 (0, 0)) (by (with_reducible repeat (first | refine qqc ?_ _ | refine qqe ?_ | refine qqd ?_ _)); exact BK122.out) hb); have n1_ := Aside0.mk (qqj (by repeat (first | (with_reducible first | exact HB.out | apply qqg | apply qqa | apply qqf | refine qqh ?_ GE122.out) | exact HB.out)) hb); clear BK122; clear HB; have BK122 := n0_; have HB := n1_; clear n0_ n1_; (try clear hb); (try clear hb2); (try clear hk); (try clear hi)))
  go_ret2
  exact ⟨_, by first | rfl | (simp [qqo, qqn] <;> rfl) | (simp [*, qqo, qqn] <;> rfl), by first | exact Kd.R_nil _ _ _ _ _ | exact Kd.N_nil _ _ _ _ _ | exact Kd.V_nil _ _ _ _ _ | exact Kd.Q_nil _ _ _ _ _ | exact Kd.S_nil _ _ _ _ _, by repeat (first | (with_reducible first | exact HB.out | apply qqg | apply qqa | apply qqf | refine qqh ?_ GE122.out) | exact HB.out)⟩
theorem msg_Put.cells10 {w : World} {g : Nat} {t : TypeId} {v0 v1 v2 v3 v4 v5 v6 v7 v8 v9 : Value} (h : w.heap[g]? = some (.cells #[v0, v1, v2, v3, v4, v5, v6, v7, v8, v9] t (0, 0))) : w.cell? ⟨g, 0, none⟩ = some v0 ∧ w.cell? ⟨g, 1, none⟩ = some v1 ∧ w.cell? ⟨g, 2, none⟩ = some v2 ∧ w.cell? ⟨g, 3, none⟩ = some v3 ∧ w.cell? ⟨g, 4, none⟩ = some v4 ∧ w.cell? ⟨g, 5, none⟩ = some v5 ∧ w.cell? ⟨g, 6, none⟩ = some v6 ∧ w.cell? ⟨g, 7, none⟩ = some v7 ∧ w.cell? ⟨g, 8, none⟩ = some v8 ∧ w.cell? ⟨g, 9, none⟩ = some v9 :=
 ⟨(qqr h 0).trans rfl, (qqr h 1).trans rfl, (qqr h 2).trans rfl, (qqr h 3).trans rfl, (qqr h 4).trans rfl, (qqr h 5).trans rfl, (qqr h 6).trans rfl, (qqr h 7).trans rfl, (qqr h 8).trans rfl, (qqr h 9).trans rfl⟩
theorem msg_Put.frozen10 {w : World} {g : Nat} {t : TypeId} {cs : Array Value} (h : w.heap[g]? = some (.cells cs t (0, 0))) : w.frozen? ⟨g, 0, none⟩ = false ∧ w.frozen? ⟨g, 1, none⟩ = false ∧ w.frozen? ⟨g, 2, none⟩ = false ∧ w.frozen? ⟨g, 3, none⟩ = false ∧ w.frozen? ⟨g, 4, none⟩ = false ∧ w.frozen? ⟨g, 5, none⟩ = false ∧ w.frozen? ⟨g, 6, none⟩ = false ∧ w.frozen? ⟨g, 7, none⟩ = false ∧ w.frozen? ⟨g, 8, none⟩ = false ∧ w.frozen? ⟨g, 9, none⟩ = false :=
 ⟨qqs h 0, qqs h 1, qqs h 2, qqs h 3, qqs h 4, qqs h 5, qqs h 6, qqs h 7, qqs h 8, qqs h 9⟩
theorem Glob.cell {w : World} (h : Glob w) (i : Nat) (v : Value) (hv : msg_table[i]? = some v) : w.cell? ⟨0, i, none⟩ = some v := by
 obtain ⟨c, t, h0, hT⟩ := h
 have hi : i < 30 := (Array.getElem?_eq_some_iff.1 hv).1
 rw [qqr h0 i, hT i hi, hv]
def msg_Put.f (k : Nat) (a0_0 : Int) (a0_1 : Int) (a0_2 : Int) (a0_3 : Int) (a0_4 : Int) (a0_5 : Int) (a0_6 : Int) (a0_7 : Int) (a0_8 : Int) (a0_9 : Int) : Option (List Int × Int) := (msg_May.f a0_0 a0_1 a0_2 a0_3 a0_4 a0_5 a0_6 a0_7 a0_8 a0_9).bind fun tm => (if tm = true then ((octets_PutAll.f k ([a0_0, a0_1, a0_2, a0_3] : List Int) ([1, 3, 3, 2] : List Int)).bind fun bt => (if bt.2 = 0 then (if a0_0 = 2 then ((rule_Put.f k a0_4 a0_5 a0_6 a0_7 a0_8 a0_9).bind fun bt2 => (if bt.1.length + bt2.1.length < 140737488355328 then (some (bt.1 ++ bt2.1, bt2.2)) else (none))) else (some (bt.1, bt.2))) else (some (bt.1, bt.2)))) else (some (([] : List Int), 1)))
theorem msg_Put.mono : ∀ a0 a1 a2 a3 a4 a5 a6 a7 a8 a9 k, LeO (msg_Put.f k a0 a1 a2 a3 a4 a5 a6 a7 a8 a9) (msg_Put.f (k + 1) a0 a1 a2 a3 a4 a5 a6 a7 a8 a9) := by
 intro a0 a1 a2 a3 a4 a5 a6 a7 a8 a9 k
 unfold msg_Put.f
 repeat' first
   | (with_reducible exact rule_Put.mono _ _ _ _ _ _ _)
   | (with_reducible exact octets_PutAll.mono _ _ _)
   | (with_reducible exact LeO.refl _)
   | (with_reducible exact LeO.none _)
   | (with_reducible refine LeO.ite ?_ ?_)
   | (with_reducible refine LeO.bind ?_ (fun _ => ?_))
   | exact rule_Put.mono _ _ _ _ _ _ _
   | exact octets_PutAll.mono _ _ _
   | exact LeO.none _
   | refine LeO.ite ?_ ?_
   | refine LeO.bind ?_ (fun _ => ?_)
set_option maxHeartbeats 8000000 in
set_option maxRecDepth 100000 in
theorem msg_Put.no (K : Nat) (a0_0 : Int) (a0_1 : Int) (a0_2 : Int) (a0_3 : Int) (a0_4 : Int) (a0_5 : Int) (a0_6 : Int) (a0_7 : Int) (a0_8 : Int) (a0_9 : Int) (w : World) (hG : Glob w) (hM : msg_May.f a0_0 a0_1 a0_2 a0_3 a0_4 a0_5 a0_6 a0_7 a0_8 a0_9 = some false) :
  Calls Tryd.prog 10 #[.agg #[.int .i64 a0_0, .int .i64 a0_1, .int .i64 a0_2, .int .i64 a0_3, .int .i64 a0_4, .int .i64 a0_5, .int .i64 a0_6, .int .i64 a0_7, .int .i64 a0_8, .int .i64 a0_9]] w fun e w' => ∃ v0_ : Value, e = .returned (.tuple #[v0_, .int .i64 (1)]) ∧ Kd.R (Kd.int .u8) 5 w' w.heap.size (fun _ => True) v0_ (([] : List Int)) ∧ Below w.heap.size w w' := by
 have hu29 := Tryd.underlying29
 have hu27 := Tryd.underlying27
 have hu48 := Tryd.underlying48
 have hu49 := Tryd.underlying49
 have HB := Aside0.mk (Below.refl w.heap.size w)
 have AM := Aside0.mk hM
 clear hM
 go_enter Tryd.func10, Tryd.ntmps10
 go_wp2_with (first | ((with_reducible refine qqx (N := 1) rfl ?_); refine box_event ?hg (N := 1) ?hd (cs := #[.int .i64 a0_0, .int .i64 a0_1, .int .i64 a0_2, .int .i64 a0_3, .int .i64 a0_4, .int .i64 a0_5, .int .i64 a0_6, .int .i64 a0_7, .int .i64 a0_8, .int .i64 a0_9]) (t := 29) ?hr ?_; (case hd => rfl); (case hg => rfl); (case hr => first | (go_simp; done) | (go_simp; rfl)); intro gb168 hg w35 hbox hb; have n0_ := Aside0.mk (qqj (by repeat (first | (with_reducible first | exact HB.out | apply qqg | apply qqa | apply qqf) | exact HB.out)) hb); have n1_ := Aside0.mk (hbox); have n2_ := Aside0.mk ((by rw [hg]; exact (qqk (by repeat (first | (with_reducible first | exact HB.out | apply qqg | apply qqa | apply qqf) | exact HB.out))) : w.heap.size ≤ gb168)); have n3_ := Aside0.mk ((by rw [hg]; exact (qqk (by repeat (first | (with_reducible first | exact HB.out | apply qqg | apply qqa | apply qqf) | exact HB.out))) : w.heap.size ≤ gb168)); clear HB; have HB := n0_; have BK168 := n1_; have GW168 := n2_; have GE168 := n3_; clear n0_ n1_ n2_ n3_; clear hb hbox hg; obtain ⟨hcz36_0, hcz36_1, hcz36_2, hcz36_3, hcz36_4, hcz36_5, hcz36_6, hcz36_7, hcz36_8, hcz36_9⟩ := msg_Put.cells10 BK168.out; obtain ⟨hfz36_0, hfz36_1, hfz36_2, hfz36_3, hfz36_4, hfz36_5, hfz36_6, hfz36_7, hfz36_8, hfz36_9⟩ := msg_Put.frozen10 BK168.out) | ((with_reducible refine qqv (f := 13) rfl ?_); refine goesL_ (some 8) rfl rfl Tryd.func13 (by kernel_rfl) rfl #[.agg #[.int .i64 a0_0, .int .i64 a0_1, .int .i64 a0_2, .int .i64 a0_3, .int .i64 a0_4, .int .i64 a0_5, .int .i64 a0_6, .int .i64 a0_7, .int .i64 a0_8, .int .i64 a0_9]] rfl (by (try simp only [List.map_toArray, List.map_cons, List.map_nil]); first | done | rfl | (simp only [List.length_drop, List.length_take]; rfl)) ?_; (with_reducible refine (msg_May.calls a0_0 a0_1 a0_2 a0_3 a0_4 a0_5 a0_6 a0_7 a0_8 a0_9 false _ (hG.below rfl HB.out) AM.out).mono ?_); rintro e w37 ⟨rfl, hb⟩; refine ⟨_, rfl, ?_⟩; have n0_ := Aside0.mk (qqm (g := gb168) (o := .cells #[.int .i64 a0_0, .int .i64 a0_1, .int .i64 a0_2, .int .i64 a0_3, .int .i64 a0_4, .int .i64 a0_5, .int .i64 a0_6, .int .i64 a0_7, .int .i64 a0_8, .int .i64 a0_9] 29 (0, 0)) (by (with_reducible repeat (first | refine qqc ?_ _ | refine qqe ?_ | refine qqd ?_ _)); exact BK168.out) hb); have n1_ := Aside0.mk (qqj (by repeat (first | (with_reducible first | exact HB.out | apply qqg | apply qqa | apply qqf | refine qqh ?_ GE168.out) | exact HB.out)) hb); clear BK168; clear HB; have BK168 := n0_; have HB := n1_; clear n0_ n1_; (try clear hb); (try clear hb2); (try clear hk); (try clear hi)))
 go_ret2
 exact ⟨_, by first | rfl | (simp [qqo, qqn] <;> rfl) | (simp [*, qqo, qqn] <;> rfl), by first | exact Kd.R_nil _ _ _ _ _ | exact Kd.N_nil _ _ _ _ _ | exact Kd.V_nil _ _ _ _ _ | exact Kd.Q_nil _ _ _ _ _ | exact Kd.S_nil _ _ _ _ _, by repeat (first | (with_reducible first | exact HB.out | apply qqg | apply qqa | apply qqf | refine qqh ?_ GE168.out) | exact HB.out)⟩
set_option maxHeartbeats 8000000 in
set_option maxRecDepth 100000 in
theorem msg_Put.bad (K : Nat) (a0_0 : Int) (a0_1 : Int) (a0_2 : Int) (a0_3 : Int) (a0_4 : Int) (a0_5 : Int) (a0_6 : Int) (a0_7 : Int) (a0_8 : Int) (a0_9 : Int) (w : World) (hG : Glob w) (hM : msg_May.f a0_0 a0_1 a0_2 a0_3 a0_4 a0_5 a0_6 a0_7 a0_8 a0_9 = some true) (t176 : List Int) (t177 : Int) (hP : octets_PutAll.f K ([a0_0, a0_1, a0_2, a0_3] : List Int) ([1, 3, 3, 2] : List Int) = some (t176, t177)) (hne : ¬ t177 = 0) :
  Calls Tryd.prog 10 #[.agg #[.int .i64 a0_0, .int .i64 a0_1, .int .i64 a0_2, .int .i64 a0_3, .int .i64 a0_4, .int .i64 a0_5, .int .i64 a0_6, .int .i64 a0_7, .int .i64 a0_8, .int .i64 a0_9]] w fun e w' => ∃ v0_ : Value, e = .returned (.tuple #[v0_, .int .i64 (t177)]) ∧ Kd.R (Kd.int .u8) 5 w' w.heap.size (fun _ => True) v0_ (t176) ∧ Below w.heap.size w w' := by
 have hu29 := Tryd.underlying29
 have hu27 := Tryd.underlying27
 have hu48 := Tryd.underlying48
 have hu49 := Tryd.underlying49
 have HB := Aside0.mk (Below.refl w.heap.size w)
 obtain ⟨y170, hy170⟩ : ∃ y_ : List Int, y_ = (([a0_0, a0_1, a0_2, a0_3] : List Int)) := ⟨_, rfl⟩
 rw [← hy170] at hP
 have Ny170 := Aside0.mk hy170
 clear hy170
 obtain ⟨y173, hy173⟩ : ∃ y_ : List Int, y_ = (([1, 3, 3, 2] : List Int)) := ⟨_, rfl⟩
 rw [← hy173] at hP
 have Ny173 := Aside0.mk hy173
 clear hy173
 have AP := Aside0.mk hP
 clear hP
 have AM := Aside0.mk hM
 clear hM
 have c6b0 : (t177 == 0) = false := beq_eq_false_iff_ne.mpr hne
 have c6b1 : (t177 != 0) = true := bne_iff_ne.mpr hne
 clear hne
 go_enter Tryd.func10, Tryd.ntmps10
 go_wp2_with (first | ((with_reducible refine qqx (N := 1) rfl ?_); refine box_event ?hg (N := 1) ?hd (cs := #[.int .i64 a0_0, .int .i64 a0_1, .int .i64 a0_2, .int .i64 a0_3, .int .i64 a0_4, .int .i64 a0_5, .int .i64 a0_6, .int .i64 a0_7, .int .i64 a0_8, .int .i64 a0_9]) (t := 29) ?hr ?_; (case hd => rfl); (case hg => rfl); (case hr => first | (go_simp; done) | (go_simp; rfl)); intro gb168 hg w23 hbox hb; have n0_ := Aside0.mk (qqj (by repeat (first | (with_reducible first | exact HB.out | apply qqg | apply qqa | apply qqf) | exact HB.out)) hb); have n1_ := Aside0.mk (hbox); have n2_ := Aside0.mk ((by rw [hg]; exact (qqk (by repeat (first | (with_reducible first | exact HB.out | apply qqg | apply qqa | apply qqf) | exact HB.out))) : w.heap.size ≤ gb168)); have n3_ := Aside0.mk ((by rw [hg]; exact (qqk (by repeat (first | (with_reducible first | exact HB.out | apply qqg | apply qqa | apply qqf) | exact HB.out))) : w.heap.size ≤ gb168)); clear HB; have HB := n0_; have BK168 := n1_; have GW168 := n2_; have GE168 := n3_; clear n0_ n1_ n2_ n3_; clear hb hbox hg; obtain ⟨hcz24_0, hcz24_1, hcz24_2, hcz24_3, hcz24_4, hcz24_5, hcz24_6, hcz24_7, hcz24_8, hcz24_9⟩ := msg_Put.cells10 BK168.out; obtain ⟨hfz24_0, hfz24_1, hfz24_2, hfz24_3, hfz24_4, hfz24_5, hfz24_6, hfz24_7, hfz24_8, hfz24_9⟩ := msg_Put.frozen10 BK168.out) | ((with_reducible refine qqv (f := 13) rfl ?_); refine goesL_ (some 8) rfl rfl Tryd.func13 (by kernel_rfl) rfl #[.agg #[.int .i64 a0_0, .int .i64 a0_1, .int .i64 a0_2, .int .i64 a0_3, .int .i64 a0_4, .int .i64 a0_5, .int .i64 a0_6, .int .i64 a0_7, .int .i64 a0_8, .int .i64 a0_9]] rfl (by (try simp only [List.map_toArray, List.map_cons, List.map_nil]); first | done | rfl | (simp only [List.length_drop, List.length_take]; rfl)) ?_; (with_reducible refine (msg_May.calls a0_0 a0_1 a0_2 a0_3 a0_4 a0_5 a0_6 a0_7 a0_8 a0_9 true _ (hG.below rfl HB.out) AM.out).mono ?_); rintro e w25 ⟨rfl, hb⟩; refine ⟨_, rfl, ?_⟩; have n0_ := Aside0.mk (qqm (g := gb168) (o := .cells #[.int .i64 a0_0, .int .i64 a0_1, .int .i64 a0_2, .int .i64 a0_3, .int .i64 a0_4, .int .i64 a0_5, .int .i64 a0_6, .int .i64 a0_7, .int .i64 a0_8, .int .i64 a0_9] 29 (0, 0)) (by (with_reducible repeat (first | refine qqc ?_ _ | refine qqe ?_ | refine qqd ?_ _)); exact BK168.out) hb); have n1_ := Aside0.mk (qqj (by repeat (first | (with_reducible first | exact HB.out | apply qqg | apply qqa | apply qqf | refine qqh ?_ GE168.out) | exact HB.out)) hb); clear BK168; clear HB; have BK168 := n0_; have HB := n1_; clear n0_ n1_; (try clear hb); (try clear hb2); (try clear hk); (try clear hi); obtain ⟨hcz26_0, hcz26_1, hcz26_2, hcz26_3, hcz26_4, hcz26_5, hcz26_6, hcz26_7, hcz26_8, hcz26_9⟩ := msg_Put.cells10 BK168.out; obtain ⟨hfz26_0, hfz26_1, hfz26_2, hfz26_3, hfz26_4, hfz26_5, hfz26_6, hfz26_7, hfz26_8, hfz26_9⟩ := msg_Put.frozen10 BK168.out) | ((with_reducible refine qqx (N := 19) rfl ?_); refine Kd.R_lit (Kd.int .i64) _ 3 ?hg (N := 19) ?hd (xs := ([a0_0, a0_1, a0_2, a0_3] : List Int)) (inner := [.int .i64 a0_0, .int .i64 a0_1, .int .i64 a0_2, .int .i64 a0_3]) (ok := fun _ => True) (okp := fun _ => True) ?hr ?hp (fun _ hk => hk) trivial (Below.refl _ _) (Nat.le_refl _) (by simp) ?_; (case hd => rfl); (case hg => rfl); (case hr => first | (go_simp; done) | (go_simp; rfl)); (case hp => exact (Reps.one (show Kd.M (Kd.int .i64) _ _ _ a0_0 [.int .i64 a0_0] from rfl) (Reps.one (show Kd.M (Kd.int .i64) _ _ _ a0_1 [.int .i64 a0_1] from rfl) (Reps.one (show Kd.M (Kd.int .i64) _ _ _ a0_2 [.int .i64 a0_2] from rfl) (Reps.one (show Kd.M (Kd.int .i64) _ _ _ a0_3 [.int .i64 a0_3] from rfl) (Reps.none _ _)))))); intro v171 w27 ho28 hb hg_ hnew_; clear hg_ hnew_; (first | rw [← Ny170.out] at ho28 | (simp only [Int.reduceToNat] at ho28; rw [← Ny170.out] at ho28)); have n0_ := Aside0.mk (Kd.R_lower ho28 (qqk (by repeat (first | (with_reducible first | exact HB.out | apply qqg | apply qqa | apply qqf | refine qqh ?_ GE168.out) | exact HB.out)))); have n1_ := Aside0.mk (qqm (g := gb168) (o := .cells #[.int .i64 a0_0, .int .i64 a0_1, .int .i64 a0_2, .int .i64 a0_3, .int .i64 a0_4, .int .i64 a0_5, .int .i64 a0_6, .int .i64 a0_7, .int .i64 a0_8, .int .i64 a0_9] 29 (0, 0)) (by (with_reducible repeat (first | refine qqc ?_ _ | refine qqe ?_ | refine qqd ?_ _)); exact BK168.out) hb); have n2_ := Aside0.mk (qqj (by repeat (first | (with_reducible first | exact HB.out | apply qqg | apply qqa | apply qqf | refine qqh ?_ GE168.out) | exact HB.out)) hb); clear BK168; clear HB; have HO172 := n0_; have BK168 := n1_; have HB := n2_; clear n0_ n1_ n2_; clear hb ho28) | ((with_reducible refine qqx (N := 20) rfl ?_); refine Kd.R_lit (Kd.int .i64) _ 3 ?hg (N := 20) ?hd (xs := ([1, 3, 3, 2] : List Int)) (inner := [.int .i64 1, .int .i64 3, .int .i64 3, .int .i64 2]) (ok := fun _ => True) (okp := fun _ => True) ?hr ?hp (fun _ hk => hk) trivial (Below.refl _ _) (Nat.le_refl _) (by simp) ?_; (case hd => rfl); (case hg => rfl); (case hr => first | (go_simp; done) | (go_simp; rfl)); (case hp => exact (Reps.one (show Kd.M (Kd.int .i64) _ _ _ 1 [.int .i64 1] from rfl) (Reps.one (show Kd.M (Kd.int .i64) _ _ _ 3 [.int .i64 3] from rfl) (Reps.one (show Kd.M (Kd.int .i64) _ _ _ 3 [.int .i64 3] from rfl) (Reps.one (show Kd.M (Kd.int .i64) _ _ _ 2 [.int .i64 2] from rfl) (Reps.none _ _)))))); intro v174 w29 ho30 hb hg_ hnew_; clear hg_ hnew_; (first | rw [← Ny173.out] at ho30 | (simp only [Int.reduceToNat] at ho30; rw [← Ny173.out] at ho30)); have n0_ := Aside0.mk (Kd.R_elder' (by (with_reducible repeat (first | apply Kd.R_alloc | apply Kd.R_drewN | apply Kd.R_drew)); exact HO172.out) (Kd.R_base ho30) hb); have n1_ := Aside0.mk (Kd.R_lower (Kd.R_new' ho30 (Kd.R_lt (by (with_reducible repeat (first | apply Kd.R_alloc | apply Kd.R_drewN | apply Kd.R_drew)); exact HO172.out))) (qqk (by repeat (first | (with_reducible first | exact HB.out | apply qqg | apply qqa | apply qqf | refine qqh ?_ GE168.out) | exact HB.out)))); have n2_ := Aside0.mk (qqm (g := gb168) (o := .cells #[.int .i64 a0_0, .int .i64 a0_1, .int .i64 a0_2, .int .i64 a0_3, .int .i64 a0_4, .int .i64 a0_5, .int .i64 a0_6, .int .i64 a0_7, .int .i64 a0_8, .int .i64 a0_9] 29 (0, 0)) (by (with_reducible repeat (first | refine qqc ?_ _ | refine qqe ?_ | refine qqd ?_ _)); exact BK168.out) hb); have n3_ := Aside0.mk (qqj (by repeat (first | (with_reducible first | exact HB.out | apply qqg | apply qqa | apply qqf | refine qqh ?_ GE168.out) | exact HB.out)) hb); clear HO172; clear BK168; clear HB; have HO172 := n0_; have HO175 := n1_; have BK168 := n2_; have HB := n3_; clear n0_ n1_ n2_ n3_; clear hb ho30; obtain ⟨Ao31, co31, eo31⟩ := Kd.R_slice HO172.out; subst eo31; obtain ⟨Ao32, co32, eo32⟩ := Kd.R_slice HO175.out; subst eo32) | ((with_reducible refine qqv (f := 16) rfl ?_); refine goesL_ (some 21) rfl rfl Tryd.func16 (by kernel_rfl) rfl #[.slice Ao31 y170.length co31, .slice Ao32 y173.length co32] rfl (by (try simp only [List.map_toArray, List.map_cons, List.map_nil]); first | done | rfl | (simp only [List.length_drop, List.length_take]; rfl)) ?_; (with_reducible refine (octets_PutAll.calls K _ _ y170 _ _ y173 t176 t177 _ ?side1 ?side2 ?side3 ?side4 AP.out).mono ?_); (case side1 => repeat (first | exact (Kd.R_reads' HO172.out).2.2 | (with_reducible refine Kd.C_alloc ?_ _) | (with_reducible refine Kd.C_drewN ?_ _) | (with_reducible refine Kd.C_drew ?_))); (case side2 => exact (Kd.R_reads' HO172.out).2.1); (case side3 => repeat (first | exact (Kd.R_reads' HO175.out).2.2 | (with_reducible refine Kd.C_alloc ?_ _) | (with_reducible refine Kd.C_drewN ?_ _) | (with_reducible refine Kd.C_drew ?_))); (case side4 => exact (Kd.R_reads' HO175.out).2.1); rintro e w33 ⟨v178, rfl, ho0, hb⟩; refine ⟨_, rfl, ?_⟩; have n0_ := Aside0.mk (Kd.R_below (by (with_reducible repeat (first | apply Kd.R_alloc | apply Kd.R_drewN | apply Kd.R_drew)); exact HO172.out) hb); have n1_ := Aside0.mk (Kd.R_below (by (with_reducible repeat (first | apply Kd.R_alloc | apply Kd.R_drewN | apply Kd.R_drew)); exact HO175.out) hb); have n2_ := Aside0.mk (Kd.R_lower ho0 (qqk (by repeat (first | (with_reducible first | exact HB.out | apply qqg | apply qqa | apply qqf | refine qqh ?_ GE168.out) | exact HB.out)))); have n3_ := Aside0.mk (qqm (g := gb168) (o := .cells #[.int .i64 a0_0, .int .i64 a0_1, .int .i64 a0_2, .int .i64 a0_3, .int .i64 a0_4, .int .i64 a0_5, .int .i64 a0_6, .int .i64 a0_7, .int .i64 a0_8, .int .i64 a0_9] 29 (0, 0)) (by (with_reducible repeat (first | refine qqc ?_ _ | refine qqe ?_ | refine qqd ?_ _)); exact BK168.out) hb); have n4_ := Aside0.mk (qqj (by repeat (first | (with_reducible first | exact HB.out | apply qqg | apply qqa | apply qqf | refine qqh ?_ GE168.out) | exact HB.out)) hb); clear HO172; clear HO175; clear BK168; clear HB; have HO172 := n0_; have HO175 := n1_; have HO179 := n2_; have BK168 := n3_; have HB := n4_; clear n0_ n1_ n2_ n3_ n4_; (try clear hb); (try clear hb2); (try clear hk); (try clear hi); (try clear ho0); obtain ⟨hcz34_0, hcz34_1, hcz34_2, hcz34_3, hcz34_4, hcz34_5, hcz34_6, hcz34_7, hcz34_8, hcz34_9⟩ := msg_Put.cells10 BK168.out; obtain ⟨hfz34_0, hfz34_1, hfz34_2, hfz34_3, hfz34_4, hfz34_5, hfz34_6, hfz34_7, hfz34_8, hfz34_9⟩ := msg_Put.frozen10 BK168.out))
 go_ret2
 exact ⟨_, by first | rfl | (simp [qqo, qqn] <;> rfl) | (simp [*, qqo, qqn] <;> rfl), by (with_reducible repeat (first | apply Kd.R_alloc | apply Kd.R_drewN | apply Kd.R_drew)); exact HO179.out, by repeat (first | (with_reducible first | exact HB.out | apply qqg | apply qqa | apply qqf | refine qqh ?_ GE168.out) | exact HB.out)⟩
set_option maxHeartbeats 8000000 in
set_option maxRecDepth 100000 in
theorem msg_Put.at0 (K : Nat) (a0_1 : Int) (a0_2 : Int) (a0_3 : Int) (a0_4 : Int) (a0_5 : Int) (a0_6 : Int) (a0_7 : Int) (a0_8 : Int) (a0_9 : Int) (w : World) (hG : Glob w) (hM : msg_May.f 0 a0_1 a0_2 a0_3 a0_4 a0_5 a0_6 a0_7 a0_8 a0_9 = some true) (t176 : List Int) (hP : octets_PutAll.f K ([0, a0_1, a0_2, a0_3] : List Int) ([1, 3, 3, 2] : List Int) = some (t176, 0)) :
  Calls Tryd.prog 10 #[.agg #[.int .i64 0, .int .i64 a0_1, .int .i64 a0_2, .int .i64 a0_3, .int .i64 a0_4, .int .i64 a0_5, .int .i64 a0_6, .int .i64 a0_7, .int .i64 a0_8, .int .i64 a0_9]] w fun e w' => ∃ v0_ : Value, e = .returned (.tuple #[v0_, .int .i64 (0)]) ∧ Kd.R (Kd.int .u8) 5 w' w.heap.size (fun _ => True) v0_ (t176) ∧ Below w.heap.size w w' := by
 have hu29 := Tryd.underlying29
 have hu27 := Tryd.underlying27
 have hu48 := Tryd.underlying48
 have hu49 := Tryd.underlying49
 have HB := Aside0.mk (Below.refl w.heap.size w)
 obtain ⟨y170, hy170⟩ : ∃ y_ : List Int, y_ = (([0, a0_1, a0_2, a0_3] : List Int)) := ⟨_, rfl⟩
 rw [← hy170] at hP
 have Ny170 := Aside0.mk hy170
 clear hy170
 obtain ⟨y173, hy173⟩ : ∃ y_ : List Int, y_ = (([1, 3, 3, 2] : List Int)) := ⟨_, rfl⟩
 rw [← hy173] at hP
 have Ny173 := Aside0.mk hy173
 clear hy173
 have AP := Aside0.mk hP
 clear hP
 have AM := Aside0.mk hM
 clear hM
 go_enter Tryd.func10, Tryd.ntmps10
 go_wp2_with (first | ((with_reducible refine qqx (N := 1) rfl ?_); refine box_event ?hg (N := 1) ?hd (cs := #[.int .i64 0, .int .i64 a0_1, .int .i64 a0_2, .int .i64 a0_3, .int .i64 a0_4, .int .i64 a0_5, .int .i64 a0_6, .int .i64 a0_7, .int .i64 a0_8, .int .i64 a0_9]) (t := 29) ?hr ?_; (case hd => rfl); (case hg => rfl); (case hr => first | (go_simp; done) | (go_simp; rfl)); intro gb168 hg w23 hbox hb; have n0_ := Aside0.mk (qqj (by repeat (first | (with_reducible first | exact HB.out | apply qqg | apply qqa | apply qqf) | exact HB.out)) hb); have n1_ := Aside0.mk (hbox); have n2_ := Aside0.mk ((by rw [hg]; exact (qqk (by repeat (first | (with_reducible first | exact HB.out | apply qqg | apply qqa | apply qqf) | exact HB.out))) : w.heap.size ≤ gb168)); have n3_ := Aside0.mk ((by rw [hg]; exact (qqk (by repeat (first | (with_reducible first | exact HB.out | apply qqg | apply qqa | apply qqf) | exact HB.out))) : w.heap.size ≤ gb168)); clear HB; have HB := n0_; have BK168 := n1_; have GW168 := n2_; have GE168 := n3_; clear n0_ n1_ n2_ n3_; clear hb hbox hg; obtain ⟨hcz24_0, hcz24_1, hcz24_2, hcz24_3, hcz24_4, hcz24_5, hcz24_6, hcz24_7, hcz24_8, hcz24_9⟩ := msg_Put.cells10 BK168.out; obtain ⟨hfz24_0, hfz24_1, hfz24_2, hfz24_3, hfz24_4, hfz24_5, hfz24_6, hfz24_7, hfz24_8, hfz24_9⟩ := msg_Put.frozen10 BK168.out; have hgl := (hG.below rfl HB.out).cell 4 (.bool false) rfl) | ((with_reducible refine qqv (f := 13) rfl ?_); refine goesL_ (some 8) rfl rfl Tryd.func13 (by kernel_rfl) rfl #[.agg #[.int .i64 0, .int .i64 a0_1, .int .i64 a0_2, .int .i64 a0_3, .int .i64 a0_4, .int .i64 a0_5, .int .i64 a0_6, .int .i64 a0_7, .int .i64 a0_8, .int .i64 a0_9]] rfl (by (try simp only [List.map_toArray, List.map_cons, List.map_nil]); first | done | rfl | (simp only [List.length_drop, List.length_take]; rfl)) ?_; (with_reducible refine (msg_May.calls 0 a0_1 a0_2 a0_3 a0_4 a0_5 a0_6 a0_7 a0_8 a0_9 true _ (hG.below rfl HB.out) AM.out).mono ?_); rintro e w25 ⟨rfl, hb⟩; refine ⟨_, rfl, ?_⟩; have n0_ := Aside0.mk (qqm (g := gb168) (o := .cells #[.int .i64 0, .int .i64 a0_1, .int .i64 a0_2, .int .i64 a0_3, .int .i64 a0_4, .int .i64 a0_5, .int .i64 a0_6, .int .i64 a0_7, .int .i64 a0_8, .int .i64 a0_9] 29 (0, 0)) (by (with_reducible repeat (first | refine qqc ?_ _ | refine qqe ?_ | refine qqd ?_ _)); exact BK168.out) hb); have n1_ := Aside0.mk (qqj (by repeat (first | (with_reducible first | exact HB.out | apply qqg | apply qqa | apply qqf | refine qqh ?_ GE168.out) | exact HB.out)) hb); clear BK168; clear HB; have BK168 := n0_; have HB := n1_; clear n0_ n1_; (try clear hb); (try clear hb2); (try clear hk); (try clear hi); obtain ⟨hcz26_0, hcz26_1, hcz26_2, hcz26_3, hcz26_4, hcz26_5, hcz26_6, hcz26_7, hcz26_8, hcz26_9⟩ := msg_Put.cells10 BK168.out; obtain ⟨hfz26_0, hfz26_1, hfz26_2, hfz26_3, hfz26_4, hfz26_5, hfz26_6, hfz26_7, hfz26_8, hfz26_9⟩ := msg_Put.frozen10 BK168.out; have hgl := (hG.below rfl HB.out).cell 4 (.bool false) rfl) | ((with_reducible refine qqx (N := 19) rfl ?_); refine Kd.R_lit (Kd.int .i64) _ 3 ?hg (N := 19) ?hd (xs := ([0, a0_1, a0_2, a0_3] : List Int)) (inner := [.int .i64 0, .int .i64 a0_1, .int .i64 a0_2, .int .i64 a0_3]) (ok := fun _ => True) (okp := fun _ => True) ?hr ?hp (fun _ hk => hk) trivial (Below.refl _ _) (Nat.le_refl _) (by simp) ?_; (case hd => rfl); (case hg => rfl); (case hr => first | (go_simp; done) | (go_simp; rfl)); (case hp => exact (Reps.one (show Kd.M (Kd.int .i64) _ _ _ 0 [.int .i64 0] from rfl) (Reps.one (show Kd.M (Kd.int .i64) _ _ _ a0_1 [.int .i64 a0_1] from rfl) (Reps.one (show Kd.M (Kd.int .i64) _ _ _ a0_2 [.int .i64 a0_2] from rfl) (Reps.one (show Kd.M (Kd.int .i64) _ _ _ a0_3 [.int .i64 a0_3] from rfl) (Reps.none _ _)))))); intro v171 w27 ho28 hb hg_ hnew_; clear hg_ hnew_; (first | rw [← Ny170.out] at ho28 | (simp only [Int.reduceToNat] at ho28; rw [← Ny170.out] at ho28)); have n0_ := Aside0.mk (Kd.R_lower ho28 (qqk (by repeat (first | (with_reducible first | exact HB.out | apply qqg | apply qqa | apply qqf | refine qqh ?_ GE168.out) | exact HB.out)))); have n1_ := Aside0.mk (qqm (g := gb168) (o := .cells #[.int .i64 0, .int .i64 a0_1, .int .i64 a0_2, .int .i64 a0_3, .int .i64 a0_4, .int .i64 a0_5, .int .i64 a0_6, .int .i64 a0_7, .int .i64 a0_8, .int .i64 a0_9] 29 (0, 0)) (by (with_reducible repeat (first | refine qqc ?_ _ | refine qqe ?_ | refine qqd ?_ _)); exact BK168.out) hb); have n2_ := Aside0.mk (qqj (by repeat (first | (with_reducible first | exact HB.out | apply qqg | apply qqa | apply qqf | refine qqh ?_ GE168.out) | exact HB.out)) hb); clear BK168; clear HB; have HO172 := n0_; have BK168 := n1_; have HB := n2_; clear n0_ n1_ n2_; clear hb ho28; have hgl := (hG.below rfl HB.out).cell 4 (.bool false) rfl) | ((with_reducible refine qqx (N := 20) rfl ?_); refine Kd.R_lit (Kd.int .i64) _ 3 ?hg (N := 20) ?hd (xs := ([1, 3, 3, 2] : List Int)) (inner := [.int .i64 1, .int .i64 3, .int .i64 3, .int .i64 2]) (ok := fun _ => True) (okp := fun _ => True) ?hr ?hp (fun _ hk => hk) trivial (Below.refl _ _) (Nat.le_refl _) (by simp) ?_; (case hd => rfl); (case hg => rfl); (case hr => first | (go_simp; done) | (go_simp; rfl)); (case hp => exact (Reps.one (show Kd.M (Kd.int .i64) _ _ _ 1 [.int .i64 1] from rfl) (Reps.one (show Kd.M (Kd.int .i64) _ _ _ 3 [.int .i64 3] from rfl) (Reps.one (show Kd.M (Kd.int .i64) _ _ _ 3 [.int .i64 3] from rfl) (Reps.one (show Kd.M (Kd.int .i64) _ _ _ 2 [.int .i64 2] from rfl) (Reps.none _ _)))))); intro v174 w29 ho30 hb hg_ hnew_; clear hg_ hnew_; (first | rw [← Ny173.out] at ho30 | (simp only [Int.reduceToNat] at ho30; rw [← Ny173.out] at ho30)); have n0_ := Aside0.mk (Kd.R_elder' (by (with_reducible repeat (first | apply Kd.R_alloc | apply Kd.R_drewN | apply Kd.R_drew)); exact HO172.out) (Kd.R_base ho30) hb); have n1_ := Aside0.mk (Kd.R_lower (Kd.R_new' ho30 (Kd.R_lt (by (with_reducible repeat (first | apply Kd.R_alloc | apply Kd.R_drewN | apply Kd.R_drew)); exact HO172.out))) (qqk (by repeat (first | (with_reducible first | exact HB.out | apply qqg | apply qqa | apply qqf | refine qqh ?_ GE168.out) | exact HB.out)))); have n2_ := Aside0.mk (qqm (g := gb168) (o := .cells #[.int .i64 0, .int .i64 a0_1, .int .i64 a0_2, .int .i64 a0_3, .int .i64 a0_4, .int .i64 a0_5, .int .i64 a0_6, .int .i64 a0_7, .int .i64 a0_8, .int .i64 a0_9] 29 (0, 0)) (by (with_reducible repeat (first | refine qqc ?_ _ | refine qqe ?_ | refine qqd ?_ _)); exact BK168.out) hb); have n3_ := Aside0.mk (qqj (by repeat (first | (with_reducible first | exact HB.out | apply qqg | apply qqa | apply qqf | refine qqh ?_ GE168.out) | exact HB.out)) hb); clear HO172; clear BK168; clear HB; have HO172 := n0_; have HO175 := n1_; have BK168 := n2_; have HB := n3_; clear n0_ n1_ n2_ n3_; clear hb ho30; obtain ⟨Ao31, co31, eo31⟩ := Kd.R_slice HO172.out; subst eo31; obtain ⟨Ao32, co32, eo32⟩ := Kd.R_slice HO175.out; subst eo32; have hgl := (hG.below rfl HB.out).cell 4 (.bool false) rfl) | ((with_reducible refine qqv (f := 16) rfl ?_); refine goesL_ (some 21) rfl rfl Tryd.func16 (by kernel_rfl) rfl #[.slice Ao31 y170.length co31, .slice Ao32 y173.length co32] rfl (by (try simp only [List.map_toArray, List.map_cons, List.map_nil]); first | done | rfl | (simp only [List.length_drop, List.length_take]; rfl)) ?_; (with_reducible refine (octets_PutAll.calls K _ _ y170 _ _ y173 t176 0 _ ?side1 ?side2 ?side3 ?side4 AP.out).mono ?_); (case side1 => repeat (first | exact (Kd.R_reads' HO172.out).2.2 | (with_reducible refine Kd.C_alloc ?_ _) | (with_reducible refine Kd.C_drewN ?_ _) | (with_reducible refine Kd.C_drew ?_))); (case side2 => exact (Kd.R_reads' HO172.out).2.1); (case side3 => repeat (first | exact (Kd.R_reads' HO175.out).2.2 | (with_reducible refine Kd.C_alloc ?_ _) | (with_reducible refine Kd.C_drewN ?_ _) | (with_reducible refine Kd.C_drew ?_))); (case side4 => exact (Kd.R_reads' HO175.out).2.1); rintro e w33 ⟨v178, rfl, ho0, hb⟩; refine ⟨_, rfl, ?_⟩; have n0_ := Aside0.mk (Kd.R_below (by (with_reducible repeat (first | apply Kd.R_alloc | apply Kd.R_drewN | apply Kd.R_drew)); exact HO172.out) hb); have n1_ := Aside0.mk (Kd.R_below (by (with_reducible repeat (first | apply Kd.R_alloc | apply Kd.R_drewN | apply Kd.R_drew)); exact HO175.out) hb); have n2_ := Aside0.mk (Kd.R_lower ho0 (qqk (by repeat (first | (with_reducible first | exact HB.out | apply qqg | apply qqa | apply qqf | refine qqh ?_ GE168.out) | exact HB.out)))); have n3_ := Aside0.mk (qqm (g := gb168) (o := .cells #[.int .i64 0, .int .i64 a0_1, .int .i64 a0_2, .int .i64 a0_3, .int .i64 a0_4, .int .i64 a0_5, .int .i64 a0_6, .int .i64 a0_7, .int .i64 a0_8, .int .i64 a0_9] 29 (0, 0)) (by (with_reducible repeat (first | refine qqc ?_ _ | refine qqe ?_ | refine qqd ?_ _)); exact BK168.out) hb); have n4_ := Aside0.mk (qqj (by repeat (first | (with_reducible first | exact HB.out | apply qqg | apply qqa | apply qqf | refine qqh ?_ GE168.out) | exact HB.out)) hb); clear HO172; clear HO175; clear BK168; clear HB; have HO172 := n0_; have HO175 := n1_; have HO179 := n2_; have BK168 := n3_; have HB := n4_; clear n0_ n1_ n2_ n3_ n4_; (try clear hb); (try clear hb2); (try clear hk); (try clear hi); (try clear ho0); obtain ⟨hcz34_0, hcz34_1, hcz34_2, hcz34_3, hcz34_4, hcz34_5, hcz34_6, hcz34_7, hcz34_8, hcz34_9⟩ := msg_Put.cells10 BK168.out; obtain ⟨hfz34_0, hfz34_1, hfz34_2, hfz34_3, hfz34_4, hfz34_5, hfz34_6, hfz34_7, hfz34_8, hfz34_9⟩ := msg_Put.frozen10 BK168.out; have hgl := (hG.below rfl HB.out).cell 4 (.bool false) rfl))
 go_ret2
 exact ⟨_, by first | rfl | (simp [qqo, qqn] <;> rfl) | (simp [*, qqo, qqn] <;> rfl), by (with_reducible repeat (first | apply Kd.R_alloc | apply Kd.R_drewN | apply Kd.R_drew)); exact HO179.out, by repeat (first | (with_reducible first | exact HB.out | apply qqg | apply qqa | apply qqf | refine qqh ?_ GE168.out) | exact HB.out)⟩
set_option maxHeartbeats 8000000 in
set_option maxRecDepth 100000 in
theorem msg_Put.at1 (K : Nat) (a0_1 : Int) (a0_2 : Int) (a0_3 : Int) (a0_4 : Int) (a0_5 : Int) (a0_6 : Int) (a0_7 : Int) (a0_8 : Int) (a0_9 : Int) (w : World) (hG : Glob w) (hM : msg_May.f 1 a0_1 a0_2 a0_3 a0_4 a0_5 a0_6 a0_7 a0_8 a0_9 = some true) (t176 : List Int) (hP : octets_PutAll.f K ([1, a0_1, a0_2, a0_3] : List Int) ([1, 3, 3, 2] : List Int) = some (t176, 0)) :
  Calls Tryd.prog 10 #[.agg #[.int .i64 1, .int .i64 a0_1, .int .i64 a0_2, .int .i64 a0_3, .int .i64 a0_4, .int .i64 a0_5, .int .i64 a0_6, .int .i64 a0_7, .int .i64 a0_8, .int .i64 a0_9]] w fun e w' => ∃ v0_ : Value, e = .returned (.tuple #[v0_, .int .i64 (0)]) ∧ Kd.R (Kd.int .u8) 5 w' w.heap.size (fun _ => True) v0_ (t176) ∧ Below w.heap.size w w' := by
 have hu29 := Tryd.underlying29
 have hu27 := Tryd.underlying27
 have hu48 := Tryd.underlying48
 have hu49 := Tryd.underlying49
 have HB := Aside0.mk (Below.refl w.heap.size w)
 obtain ⟨y170, hy170⟩ : ∃ y_ : List Int, y_ = (([1, a0_1, a0_2, a0_3] : List Int)) := ⟨_, rfl⟩
 rw [← hy170] at hP
 have Ny170 := Aside0.mk hy170
 clear hy170
 obtain ⟨y173, hy173⟩ : ∃ y_ : List Int, y_ = (([1, 3, 3, 2] : List Int)) := ⟨_, rfl⟩
 rw [← hy173] at hP
 have Ny173 := Aside0.mk hy173
 clear hy173
 have AP := Aside0.mk hP
 clear hP
 have AM := Aside0.mk hM
 clear hM
 go_enter Tryd.func10, Tryd.ntmps10
 go_wp2_with (first | ((with_reducible refine qqx (N := 1) rfl ?_); refine box_event ?hg (N := 1) ?hd (cs := #[.int .i64 1, .int .i64 a0_1, .int .i64 a0_2, .int .i64 a0_3, .int .i64 a0_4, .int .i64 a0_5, .int .i64 a0_6, .int .i64 a0_7, .int .i64 a0_8, .int .i64 a0_9]) (t := 29) ?hr ?_; (case hd => rfl); (case hg => rfl); (case hr => first | (go_simp; done) | (go_simp; rfl)); intro gb168 hg w23 hbox hb; have n0_ := Aside0.mk (qqj (by repeat (first | (with_reducible first | exact HB.out | apply qqg | apply qqa | apply qqf) | exact HB.out)) hb); have n1_ := Aside0.mk (hbox); have n2_ := Aside0.mk ((by rw [hg]; exact (qqk (by repeat (first | (with_reducible first | exact HB.out | apply qqg | apply qqa | apply qqf) | exact HB.out))) : w.heap.size ≤ gb168)); have n3_ := Aside0.mk ((by rw [hg]; exact (qqk (by repeat (first | (with_reducible first | exact HB.out | apply qqg | apply qqa | apply qqf) | exact HB.out))) : w.heap.size ≤ gb168)); clear HB; have HB := n0_; have BK168 := n1_; have GW168 := n2_; have GE168 := n3_; clear n0_ n1_ n2_ n3_; clear hb hbox hg; obtain ⟨hcz24_0, hcz24_1, hcz24_2, hcz24_3, hcz24_4, hcz24_5, hcz24_6, hcz24_7, hcz24_8, hcz24_9⟩ := msg_Put.cells10 BK168.out; obtain ⟨hfz24_0, hfz24_1, hfz24_2, hfz24_3, hfz24_4, hfz24_5, hfz24_6, hfz24_7, hfz24_8, hfz24_9⟩ := msg_Put.frozen10 BK168.out; have hgl := (hG.below rfl HB.out).cell 9 (.bool false) rfl) | ((with_reducible refine qqv (f := 13) rfl ?_); refine goesL_ (some 8) rfl rfl Tryd.func13 (by kernel_rfl) rfl #[.agg #[.int .i64 1, .int .i64 a0_1, .int .i64 a0_2, .int .i64 a0_3, .int .i64 a0_4, .int .i64 a0_5, .int .i64 a0_6, .int .i64 a0_7, .int .i64 a0_8, .int .i64 a0_9]] rfl (by (try simp only [List.map_toArray, List.map_cons, List.map_nil]); first | done | rfl | (simp only [List.length_drop, List.length_take]; rfl)) ?_; (with_reducible refine (msg_May.calls 1 a0_1 a0_2 a0_3 a0_4 a0_5 a0_6 a0_7 a0_8 a0_9 true _ (hG.below rfl HB.out) AM.out).mono ?_); rintro e w25 ⟨rfl, hb⟩; refine ⟨_, rfl, ?_⟩; have n0_ := Aside0.mk (qqm (g := gb168) (o := .cells #[.int .i64 1, .int .i64 a0_1, .int .i64 a0_2, .int .i64 a0_3, .int .i64 a0_4, .int .i64 a0_5, .int .i64 a0_6, .int .i64 a0_7, .int .i64 a0_8, .int .i64 a0_9] 29 (0, 0)) (by (with_reducible repeat (first | refine qqc ?_ _ | refine qqe ?_ | refine qqd ?_ _)); exact BK168.out) hb); have n1_ := Aside0.mk (qqj (by repeat (first | (with_reducible first | exact HB.out | apply qqg | apply qqa | apply qqf | refine qqh ?_ GE168.out) | exact HB.out)) hb); clear BK168; clear HB; have BK168 := n0_; have HB := n1_; clear n0_ n1_; (try clear hb); (try clear hb2); (try clear hk); (try clear hi); obtain ⟨hcz26_0, hcz26_1, hcz26_2, hcz26_3, hcz26_4, hcz26_5, hcz26_6, hcz26_7, hcz26_8, hcz26_9⟩ := msg_Put.cells10 BK168.out; obtain ⟨hfz26_0, hfz26_1, hfz26_2, hfz26_3, hfz26_4, hfz26_5, hfz26_6, hfz26_7, hfz26_8, hfz26_9⟩ := msg_Put.frozen10 BK168.out; have hgl := (hG.below rfl HB.out).cell 9 (.bool false) rfl) | ((with_reducible refine qqx (N := 19) rfl ?_); refine Kd.R_lit (Kd.int .i64) _ 3 ?hg (N := 19) ?hd (xs := ([1, a0_1, a0_2, a0_3] : List Int)) (inner := [.int .i64 1, .int .i64 a0_1, .int .i64 a0_2, .int .i64 a0_3]) (ok := fun _ => True) (okp := fun _ => True) ?hr ?hp (fun _ hk => hk) trivial (Below.refl _ _) (Nat.le_refl _) (by simp) ?_; (case hd => rfl); (case hg => rfl); (case hr => first | (go_simp; done) | (go_simp; rfl)); (case hp => exact (Reps.one (show Kd.M (Kd.int .i64) _ _ _ 1 [.int .i64 1] from rfl) (Reps.one (show Kd.M (Kd.int .i64) _ _ _ a0_1 [.int .i64 a0_1] from rfl) (Reps.one (show Kd.M (Kd.int .i64) _ _ _ a0_2 [.int .i64 a0_2] from rfl) (Reps.one (show Kd.M (Kd.int .i64) _ _ _ a0_3 [.int .i64 a0_3] from rfl) (Reps.none _ _)))))); intro v171 w27 ho28 hb hg_ hnew_; clear hg_ hnew_; (first | rw [← Ny170.out] at ho28 | (simp only [Int.reduceToNat] at ho28; rw [← Ny170.out] at ho28)); have n0_ := Aside0.mk (Kd.R_lower ho28 (qqk (by repeat (first | (with_reducible first | exact HB.out | apply qqg | apply qqa | apply qqf | refine qqh ?_ GE168.out) | exact HB.out)))); have n1_ := Aside0.mk (qqm (g := gb168) (o := .cells #[.int .i64 1, .int .i64 a0_1, .int .i64 a0_2, .int .i64 a0_3, .int .i64 a0_4, .int .i64 a0_5, .int .i64 a0_6, .int .i64 a0_7, .int .i64 a0_8, .int .i64 a0_9] 29 (0, 0)) (by (with_reducible repeat (first | refine qqc ?_ _ | refine qqe ?_ | refine qqd ?_ _)); exact BK168.out) hb); have n2_ := Aside0.mk (qqj (by repeat (first | (with_reducible first | exact HB.out | apply qqg | apply qqa | apply qqf | refine qqh ?_ GE168.out) | exact HB.out)) hb); clear BK168; clear HB; have HO172 := n0_; have BK168 := n1_; have HB := n2_; clear n0_ n1_ n2_; clear hb ho28; have hgl := (hG.below rfl HB.out).cell 9 (.bool false) rfl) | ((with_reducible refine qqx (N := 20) rfl ?_); refine Kd.R_lit (Kd.int .i64) _ 3 ?hg (N := 20) ?hd (xs := ([1, 3, 3, 2] : List Int)) (inner := [.int .i64 1, .int .i64 3, .int .i64 3, .int .i64 2]) (ok := fun _ => True) (okp := fun _ => True) ?hr ?hp (fun _ hk => hk) trivial (Below.refl _ _) (Nat.le_refl _) (by simp) ?_; (case hd => rfl); (case hg => rfl); (case hr => first | (go_simp; done) | (go_simp; rfl)); (case hp => exact (Reps.one (show Kd.M (Kd.int .i64) _ _ _ 1 [.int .i64 1] from rfl) (Reps.one (show Kd.M (Kd.int .i64) _ _ _ 3 [.int .i64 3] from rfl) (Reps.one (show Kd.M (Kd.int .i64) _ _ _ 3 [.int .i64 3] from rfl) (Reps.one (show Kd.M (Kd.int .i64) _ _ _ 2 [.int .i64 2] from rfl) (Reps.none _ _)))))); intro v174 w29 ho30 hb hg_ hnew_; clear hg_ hnew_; (first | rw [← Ny173.out] at ho30 | (simp only [Int.reduceToNat] at ho30; rw [← Ny173.out] at ho30)); have n0_ := Aside0.mk (Kd.R_elder' (by (with_reducible repeat (first | apply Kd.R_alloc | apply Kd.R_drewN | apply Kd.R_drew)); exact HO172.out) (Kd.R_base ho30) hb); have n1_ := Aside0.mk (Kd.R_lower (Kd.R_new' ho30 (Kd.R_lt (by (with_reducible repeat (first | apply Kd.R_alloc | apply Kd.R_drewN | apply Kd.R_drew)); exact HO172.out))) (qqk (by repeat (first | (with_reducible first | exact HB.out | apply qqg | apply qqa | apply qqf | refine qqh ?_ GE168.out) | exact HB.out)))); have n2_ := Aside0.mk (qqm (g := gb168) (o := .cells #[.int .i64 1, .int .i64 a0_1, .int .i64 a0_2, .int .i64 a0_3, .int .i64 a0_4, .int .i64 a0_5, .int .i64 a0_6, .int .i64 a0_7, .int .i64 a0_8, .int .i64 a0_9] 29 (0, 0)) (by (with_reducible repeat (first | refine qqc ?_ _ | refine qqe ?_ | refine qqd ?_ _)); exact BK168.out) hb); have n3_ := Aside0.mk (qqj (by repeat (first | (with_reducible first | exact HB.out | apply qqg | apply qqa | apply qqf | refine qqh ?_ GE168.out) | exact HB.out)) hb); clear HO172; clear BK168; clear HB; have HO172 := n0_; have HO175 := n1_; have BK168 := n2_; have HB := n3_; clear n0_ n1_ n2_ n3_; clear hb ho30; obtain ⟨Ao31, co31, eo31⟩ := Kd.R_slice HO172.out; subst eo31; obtain ⟨Ao32, co32, eo32⟩ := Kd.R_slice HO175.out; subst eo32; have hgl := (hG.below rfl HB.out).cell 9 (.bool false) rfl) | ((with_reducible refine qqv (f := 16) rfl ?_); refine goesL_ (some 21) rfl rfl Tryd.func16 (by kernel_rfl) rfl #[.slice Ao31 y170.length co31, .slice Ao32 y173.length co32] rfl (by (try simp only [List.map_toArray, List.map_cons, List.map_nil]); first | done | rfl | (simp only [List.length_drop, List.length_take]; rfl)) ?_; (with_reducible refine (octets_PutAll.calls K _ _ y170 _ _ y173 t176 0 _ ?side1 ?side2 ?side3 ?side4 AP.out).mono ?_); (case side1 => repeat (first | exact (Kd.R_reads' HO172.out).2.2 | (with_reducible refine Kd.C_alloc ?_ _) | (with_reducible refine Kd.C_drewN ?_ _) | (with_reducible refine Kd.C_drew ?_))); (case side2 => exact (Kd.R_reads' HO172.out).2.1); (case side3 => repeat (first | exact (Kd.R_reads' HO175.out).2.2 | (with_reducible refine Kd.C_alloc ?_ _) | (with_reducible refine Kd.C_drewN ?_ _) | (with_reducible refine Kd.C_drew ?_))); (case side4 => exact (Kd.R_reads' HO175.out).2.1); rintro e w33 ⟨v178, rfl, ho0, hb⟩; refine ⟨_, rfl, ?_⟩; have n0_ := Aside0.mk (Kd.R_below (by (with_reducible repeat (first | apply Kd.R_alloc | apply Kd.R_drewN | apply Kd.R_drew)); exact HO172.out) hb); have n1_ := Aside0.mk (Kd.R_below (by (with_reducible repeat (first | apply Kd.R_alloc | apply Kd.R_drewN | apply Kd.R_drew)); exact HO175.out) hb); have n2_ := Aside0.mk (Kd.R_lower ho0 (qqk (by repeat (first | (with_reducible first | exact HB.out | apply qqg | apply qqa | apply qqf | refine qqh ?_ GE168.out) | exact HB.out)))); have n3_ := Aside0.mk (qqm (g := gb168) (o := .cells #[.int .i64 1, .int .i64 a0_1, .int .i64 a0_2, .int .i64 a0_3, .int .i64 a0_4, .int .i64 a0_5, .int .i64 a0_6, .int .i64 a0_7, .int .i64 a0_8, .int .i64 a0_9] 29 (0, 0)) (by (with_reducible repeat (first | refine qqc ?_ _ | refine qqe ?_ | refine qqd ?_ _)); exact BK168.out) hb); have n4_ := Aside0.mk (qqj (by repeat (first | (with_reducible first | exact HB.out | apply qqg | apply qqa | apply qqf | refine qqh ?_ GE168.out) | exact HB.out)) hb); clear HO172; clear HO175; clear BK168; clear HB; have HO172 := n0_; have HO175 := n1_; have HO179 := n2_; have BK168 := n3_; have HB := n4_; clear n0_ n1_ n2_ n3_ n4_; (try clear hb); (try clear hb2); (try clear hk); (try clear hi); (try clear ho0); obtain ⟨hcz34_0, hcz34_1, hcz34_2, hcz34_3, hcz34_4, hcz34_5, hcz34_6, hcz34_7, hcz34_8, hcz34_9⟩ := msg_Put.cells10 BK168.out; obtain ⟨hfz34_0, hfz34_1, hfz34_2, hfz34_3, hfz34_4, hfz34_5, hfz34_6, hfz34_7, hfz34_8, hfz34_9⟩ := msg_Put.frozen10 BK168.out; have hgl := (hG.below rfl HB.out).cell 9 (.bool false) rfl))
 go_ret2
 exact ⟨_, by first | rfl | (simp [qqo, qqn] <;> rfl) | (simp [*, qqo, qqn] <;> rfl), by (with_reducible repeat (first | apply Kd.R_alloc | apply Kd.R_drewN | apply Kd.R_drew)); exact HO179.out, by repeat (first | (with_reducible first | exact HB.out | apply qqg | apply qqa | apply qqf | refine qqh ?_ GE168.out) | exact HB.out)⟩
set_option maxHeartbeats 8000000 in
set_option maxRecDepth 100000 in
theorem msg_Put.at2 (K : Nat) (a0_1 : Int) (a0_2 : Int) (a0_3 : Int) (a0_4 : Int) (a0_5 : Int) (a0_6 : Int) (a0_7 : Int) (a0_8 : Int) (a0_9 : Int) (w : World) (hG : Glob w) (hM : msg_May.f 2 a0_1 a0_2 a0_3 a0_4 a0_5 a0_6 a0_7 a0_8 a0_9 = some true) (t176 : List Int) (hP : octets_PutAll.f K ([2, a0_1, a0_2, a0_3] : List Int) ([1, 3, 3, 2] : List Int) = some (t176, 0)) (t180 : List Int) (t183 : Int) (hR : rule_Put.f K a0_4 a0_5 a0_6 a0_7 a0_8 a0_9 = some (t180, t183)) (hl : t176.length + t180.length < 140737488355328) :
  Calls Tryd.prog 10 #[.agg #[.int .i64 2, .int .i64 a0_1, .int .i64 a0_2, .int .i64 a0_3, .int .i64 a0_4, .int .i64 a0_5, .int .i64 a0_6, .int .i64 a0_7, .int .i64 a0_8, .int .i64 a0_9]] w fun e w' => ∃ v0_ : Value, e = .returned (.tuple #[v0_, .int .i64 (t183)]) ∧ Kd.R (Kd.int .u8) 5 w' w.heap.size (fun _ => True) v0_ (t176 ++ t180) ∧ Below w.heap.size w w' := by
 have hu29 := Tryd.underlying29
 have hu27 := Tryd.underlying27
 have hu48 := Tryd.underlying48
 have hu49 := Tryd.underlying49
 have HB := Aside0.mk (Below.refl w.heap.size w)
 obtain ⟨y170, hy170⟩ : ∃ y_ : List Int, y_ = (([2, a0_1, a0_2, a0_3] : List Int)) := ⟨_, rfl⟩
 rw [← hy170] at hP
 have Ny170 := Aside0.mk hy170
 clear hy170
 obtain ⟨y173, hy173⟩ : ∃ y_ : List Int, y_ = (([1, 3, 3, 2] : List Int)) := ⟨_, rfl⟩
 rw [← hy173] at hP
 have Ny173 := Aside0.mk hy173
 clear hy173
 have AP := Aside0.mk hP
 clear hP
 have AM := Aside0.mk hM
 clear hM
 have AR := Aside0.mk hR
 clear hR
 have LMc7 := Aside0.mk hl
 clear hl
 obtain ⟨y184, hy184⟩ : ∃ y_ : List Int, y_ = (t176 ++ t180) := ⟨_, rfl⟩
 rw [← hy184]
 have Ny184 := Aside0.mk hy184
 clear hy184
 go_enter Tryd.func10, Tryd.ntmps10
 go_wp2_with (first | ((with_reducible refine qqx (N := 1) rfl ?_); refine box_event ?hg (N := 1) ?hd (cs := #[.int .i64 2, .int .i64 a0_1, .int .i64 a0_2, .int .i64 a0_3, .int .i64 a0_4, .int .i64 a0_5, .int .i64 a0_6, .int .i64 a0_7, .int .i64 a0_8, .int .i64 a0_9]) (t := 29) ?hr ?_; (case hd => rfl); (case hg => rfl); (case hr => first | (go_simp; done) | (go_simp; rfl)); intro gb168 hg w8 hbox hb; have n0_ := Aside0.mk (qqj (by repeat (first | (with_reducible first | exact HB.out | apply qqg | apply qqa | apply qqf) | exact HB.out)) hb); have n1_ := Aside0.mk (hbox); have n2_ := Aside0.mk ((by rw [hg]; exact (qqk (by repeat (first | (with_reducible first | exact HB.out | apply qqg | apply qqa | apply qqf) | exact HB.out))) : w.heap.size ≤ gb168)); have n3_ := Aside0.mk ((by rw [hg]; exact (qqk (by repeat (first | (with_reducible first | exact HB.out | apply qqg | apply qqa | apply qqf) | exact HB.out))) : w.heap.size ≤ gb168)); clear HB; have HB := n0_; have BK168 := n1_; have GW168 := n2_; have GE168 := n3_; clear n0_ n1_ n2_ n3_; clear hb hbox hg; obtain ⟨hcz9_0, hcz9_1, hcz9_2, hcz9_3, hcz9_4, hcz9_5, hcz9_6, hcz9_7, hcz9_8, hcz9_9⟩ := msg_Put.cells10 BK168.out; obtain ⟨hfz9_0, hfz9_1, hfz9_2, hfz9_3, hfz9_4, hfz9_5, hfz9_6, hfz9_7, hfz9_8, hfz9_9⟩ := msg_Put.frozen10 BK168.out; have hgl := (hG.below rfl HB.out).cell 14 (.bool true) rfl) | ((with_reducible refine qqv (f := 13) rfl ?_); refine goesL_ (some 8) rfl rfl Tryd.func13 (by kernel_rfl) rfl #[.agg #[.int .i64 2, .int .i64 a0_1, .int .i64 a0_2, .int .i64 a0_3, .int .i64 a0_4, .int .i64 a0_5, .int .i64 a0_6, .int .i64 a0_7, .int .i64 a0_8, .int .i64 a0_9]] rfl (by (try simp only [List.map_toArray, List.map_cons, List.map_nil]); first | done | rfl | (simp only [List.length_drop, List.length_take]; rfl)) ?_; (with_reducible refine (msg_May.calls 2 a0_1 a0_2 a0_3 a0_4 a0_5 a0_6 a0_7 a0_8 a0_9 true _ (hG.below rfl HB.out) AM.out).mono ?_); rintro e w10 ⟨rfl, hb⟩; refine ⟨_, rfl, ?_⟩; have n0_ := Aside0.mk (qqm (g := gb168) (o := .cells #[.int .i64 2, .int .i64 a0_1, .int .i64 a0_2, .int .i64 a0_3, .int .i64 a0_4, .int .i64 a0_5, .int .i64 a0_6, .int .i64 a0_7, .int .i64 a0_8, .int .i64 a0_9] 29 (0, 0)) (by (with_reducible repeat (first | refine qqc ?_ _ | refine qqe ?_ | refine qqd ?_ _)); exact BK168.out) hb); have n1_ := Aside0.mk (qqj (by repeat (first | (with_reducible first | exact HB.out | apply qqg | apply qqa | apply qqf | refine qqh ?_ GE168.out) | exact HB.out)) hb); clear BK168; clear HB; have BK168 := n0_; have HB := n1_; clear n0_ n1_; (try clear hb); (try clear hb2); (try clear hk); (try clear hi); obtain ⟨hcz11_0, hcz11_1, hcz11_2, hcz11_3, hcz11_4, hcz11_5, hcz11_6, hcz11_7, hcz11_8, hcz11_9⟩ := msg_Put.cells10 BK168.out; obtain ⟨hfz11_0, hfz11_1, hfz11_2, hfz11_3, hfz11_4, hfz11_5, hfz11_6, hfz11_7, hfz11_8, hfz11_9⟩ := msg_Put.frozen10 BK168.out; have hgl := (hG.below rfl HB.out).cell 14 (.bool true) rfl) | ((with_reducible refine qqx (N := 19) rfl ?_); refine Kd.R_lit (Kd.int .i64) _ 3 ?hg (N := 19) ?hd (xs := ([2, a0_1, a0_2, a0_3] : List Int)) (inner := [.int .i64 2, .int .i64 a0_1, .int .i64 a0_2, .int .i64 a0_3]) (ok := fun _ => True) (okp := fun _ => True) ?hr ?hp (fun _ hk => hk) trivial (Below.refl _ _) (Nat.le_refl _) (by simp) ?_; (case hd => rfl); (case hg => rfl); (case hr => first | (go_simp; done) | (go_simp; rfl)); (case hp => exact (Reps.one (show Kd.M (Kd.int .i64) _ _ _ 2 [.int .i64 2] from rfl) (Reps.one (show Kd.M (Kd.int .i64) _ _ _ a0_1 [.int .i64 a0_1] from rfl) (Reps.one (show Kd.M (Kd.int .i64) _ _ _ a0_2 [.int .i64 a0_2] from rfl) (Reps.one (show Kd.M (Kd.int .i64) _ _ _ a0_3 [.int .i64 a0_3] from rfl) (Reps.none _ _)))))); intro v171 w12 ho13 hb hg_ hnew_; clear hg_ hnew_; (first | rw [← Ny170.out] at ho13 | (simp only [Int.reduceToNat] at ho13; rw [← Ny170.out] at ho13)); have n0_ := Aside0.mk (Kd.R_lower ho13 (qqk (by repeat (first | (with_reducible first | exact HB.out | apply qqg | apply qqa | apply qqf | refine qqh ?_ GE168.out) | exact HB.out)))); have n1_ := Aside0.mk (qqm (g := gb168) (o := .cells #[.int .i64 2, .int .i64 a0_1, .int .i64 a0_2, .int .i64 a0_3, .int .i64 a0_4, .int .i64 a0_5, .int .i64 a0_6, .int .i64 a0_7, .int .i64 a0_8, .int .i64 a0_9] 29 (0, 0)) (by (with_reducible repeat (first | refine qqc ?_ _ | refine qqe ?_ | refine qqd ?_ _)); exact BK168.out) hb); have n2_ := Aside0.mk (qqj (by repeat (first | (with_reducible first | exact HB.out | apply qqg | apply qqa | apply qqf | refine qqh ?_ GE168.out) | exact HB.out)) hb); clear BK168; clear HB; have HO172 := n0_; have BK168 := n1_; have HB := n2_; clear n0_ n1_ n2_; clear hb ho13; have hgl := (hG.below rfl HB.out).cell 14 (.bool true) rfl) | ((with_reducible refine qqx (N := 20) rfl ?_); refine Kd.R_lit (Kd.int .i64) _ 3 ?hg (N := 20) ?hd (xs := ([1, 3, 3, 2] : List Int)) (inner := [.int .i64 1, .int .i64 3, .int .i64 3, .int .i64 2]) (ok := fun _ => True) (okp := fun _ => True) ?hr ?hp (fun _ hk => hk) trivial (Below.refl _ _) (Nat.le_refl _) (by simp) ?_; (case hd => rfl); (case hg => rfl); (case hr => first | (go_simp; done) | (go_simp; rfl)); (case hp => exact (Reps.one (show Kd.M (Kd.int .i64) _ _ _ 1 [.int .i64 1] from rfl) (Reps.one (show Kd.M (Kd.int .i64) _ _ _ 3 [.int .i64 3] from rfl) (Reps.one (show Kd.M (Kd.int .i64) _ _ _ 3 [.int .i64 3] from rfl) (Reps.one (show Kd.M (Kd.int .i64) _ _ _ 2 [.int .i64 2] from rfl) (Reps.none _ _)))))); intro v174 w14 ho15 hb hg_ hnew_; clear hg_ hnew_; (first | rw [← Ny173.out] at ho15 | (simp only [Int.reduceToNat] at ho15; rw [← Ny173.out] at ho15)); have n0_ := Aside0.mk (Kd.R_elder' (by (with_reducible repeat (first | apply Kd.R_alloc | apply Kd.R_drewN | apply Kd.R_drew)); exact HO172.out) (Kd.R_base ho15) hb); have n1_ := Aside0.mk (Kd.R_lower (Kd.R_new' ho15 (Kd.R_lt (by (with_reducible repeat (first | apply Kd.R_alloc | apply Kd.R_drewN | apply Kd.R_drew)); exact HO172.out))) (qqk (by repeat (first | (with_reducible first | exact HB.out | apply qqg | apply qqa | apply qqf | refine qqh ?_ GE168.out) | exact HB.out)))); have n2_ := Aside0.mk (qqm (g := gb168) (o := .cells #[.int .i64 2, .int .i64 a0_1, .int .i64 a0_2, .int .i64 a0_3, .int .i64 a0_4, .int .i64 a0_5, .int .i64 a0_6, .int .i64 a0_7, .int .i64 a0_8, .int .i64 a0_9] 29 (0, 0)) (by (with_reducible repeat (first | refine qqc ?_ _ | refine qqe ?_ | refine qqd ?_ _)); exact BK168.out) hb); have n3_ := Aside0.mk (qqj (by repeat (first | (with_reducible first | exact HB.out | apply qqg | apply qqa | apply qqf | refine qqh ?_ GE168.out) | exact HB.out)) hb); clear HO172; clear BK168; clear HB; have HO172 := n0_; have HO175 := n1_; have BK168 := n2_; have HB := n3_; clear n0_ n1_ n2_ n3_; clear hb ho15; obtain ⟨Ao16, co16, eo16⟩ := Kd.R_slice HO172.out; subst eo16; obtain ⟨Ao17, co17, eo17⟩ := Kd.R_slice HO175.out; subst eo17; have hgl := (hG.below rfl HB.out).cell 14 (.bool true) rfl) | ((with_reducible refine qqv (f := 16) rfl ?_); refine goesL_ (some 21) rfl rfl Tryd.func16 (by kernel_rfl) rfl #[.slice Ao16 y170.length co16, .slice Ao17 y173.length co17] rfl (by (try simp only [List.map_toArray, List.map_cons, List.map_nil]); first | done | rfl | (simp only [List.length_drop, List.length_take]; rfl)) ?_; (with_reducible refine (octets_PutAll.calls K _ _ y170 _ _ y173 t176 0 _ ?side1 ?side2 ?side3 ?side4 AP.out).mono ?_); (case side1 => repeat (first | exact (Kd.R_reads' HO172.out).2.2 | (with_reducible refine Kd.C_alloc ?_ _) | (with_reducible refine Kd.C_drewN ?_ _) | (with_reducible refine Kd.C_drew ?_))); (case side2 => exact (Kd.R_reads' HO172.out).2.1); (case side3 => repeat (first | exact (Kd.R_reads' HO175.out).2.2 | (with_reducible refine Kd.C_alloc ?_ _) | (with_reducible refine Kd.C_drewN ?_ _) | (with_reducible refine Kd.C_drew ?_))); (case side4 => exact (Kd.R_reads' HO175.out).2.1); rintro e w18 ⟨v178, rfl, ho0, hb⟩; refine ⟨_, rfl, ?_⟩; have n0_ := Aside0.mk (Kd.R_below (by (with_reducible repeat (first | apply Kd.R_alloc | apply Kd.R_drewN | apply Kd.R_drew)); exact HO172.out) hb); have n1_ := Aside0.mk (Kd.R_below (by (with_reducible repeat (first | apply Kd.R_alloc | apply Kd.R_drewN | apply Kd.R_drew)); exact HO175.out) hb); have n2_ := Aside0.mk (Kd.R_lower ho0 (qqk (by repeat (first | (with_reducible first | exact HB.out | apply qqg | apply qqa | apply qqf | refine qqh ?_ GE168.out) | exact HB.out)))); have n3_ := Aside0.mk (qqm (g := gb168) (o := .cells #[.int .i64 2, .int .i64 a0_1, .int .i64 a0_2, .int .i64 a0_3, .int .i64 a0_4, .int .i64 a0_5, .int .i64 a0_6, .int .i64 a0_7, .int .i64 a0_8, .int .i64 a0_9] 29 (0, 0)) (by (with_reducible repeat (first | refine qqc ?_ _ | refine qqe ?_ | refine qqd ?_ _)); exact BK168.out) hb); have n4_ := Aside0.mk (qqj (by repeat (first | (with_reducible first | exact HB.out | apply qqg | apply qqa | apply qqf | refine qqh ?_ GE168.out) | exact HB.out)) hb); clear HO172; clear HO175; clear BK168; clear HB; have HO172 := n0_; have HO175 := n1_; have HO179 := n2_; have BK168 := n3_; have HB := n4_; clear n0_ n1_ n2_ n3_ n4_; (try clear hb); (try clear hb2); (try clear hk); (try clear hi); (try clear ho0); obtain ⟨hcz19_0, hcz19_1, hcz19_2, hcz19_3, hcz19_4, hcz19_5, hcz19_6, hcz19_7, hcz19_8, hcz19_9⟩ := msg_Put.cells10 BK168.out; obtain ⟨hfz19_0, hfz19_1, hfz19_2, hfz19_3, hfz19_4, hfz19_5, hfz19_6, hfz19_7, hfz19_8, hfz19_9⟩ := msg_Put.frozen10 BK168.out; have hgl := (hG.below rfl HB.out).cell 14 (.bool true) rfl) | ((with_reducible refine qqv (f := 17) rfl ?_); refine goesL_ (some 39) rfl rfl Tryd.func17 (by kernel_rfl) rfl #[.agg #[.int .i64 a0_4, .int .i64 a0_5, .int .i64 a0_6, .int .i64 a0_7, .int .i64 a0_8, .int .i64 a0_9]] rfl (by (try simp only [List.map_toArray, List.map_cons, List.map_nil]); first | done | rfl | (simp only [List.length_drop, List.length_take]; rfl)) ?_; (with_reducible refine (rule_Put.calls K a0_4 a0_5 a0_6 a0_7 a0_8 a0_9 t180 t183 _ AR.out).mono ?_); rintro e w20 ⟨v181, rfl, ho0, hb⟩; refine ⟨_, rfl, ?_⟩; have n0_ := Aside0.mk (Kd.R_below (by (with_reducible repeat (first | apply Kd.R_alloc | apply Kd.R_drewN | apply Kd.R_drew)); exact HO172.out) hb); have n1_ := Aside0.mk (Kd.R_below (by (with_reducible repeat (first | apply Kd.R_alloc | apply Kd.R_drewN | apply Kd.R_drew)); exact HO175.out) hb); have n2_ := Aside0.mk (Kd.R_elder' (by (with_reducible repeat (first | apply Kd.R_alloc | apply Kd.R_drewN | apply Kd.R_drew)); exact HO179.out) (Kd.R_base ho0) hb); have n3_ := Aside0.mk (Kd.R_lower (Kd.R_new' ho0 (Kd.R_lt (by (with_reducible repeat (first | apply Kd.R_alloc | apply Kd.R_drewN | apply Kd.R_drew)); exact HO179.out))) (qqk (by repeat (first | (with_reducible first | exact HB.out | apply qqg | apply qqa | apply qqf | refine qqh ?_ GE168.out) | exact HB.out)))); have n4_ := Aside0.mk (qqm (g := gb168) (o := .cells #[.int .i64 2, .int .i64 a0_1, .int .i64 a0_2, .int .i64 a0_3, .int .i64 a0_4, .int .i64 a0_5, .int .i64 a0_6, .int .i64 a0_7, .int .i64 a0_8, .int .i64 a0_9] 29 (0, 0)) (by (with_reducible repeat (first | refine qqc ?_ _ | refine qqe ?_ | refine qqd ?_ _)); exact BK168.out) hb); have n5_ := Aside0.mk (qqj (by repeat (first | (with_reducible first | exact HB.out | apply qqg | apply qqa | apply qqf | refine qqh ?_ GE168.out) | exact HB.out)) hb); clear HO172; clear HO175; clear HO179; clear BK168; clear HB; have HO172 := n0_; have HO175 := n1_; have HO179 := n2_; have HO182 := n3_; have BK168 := n4_; have HB := n5_; clear n0_ n1_ n2_ n3_ n4_ n5_; (try clear hb); (try clear hb2); (try clear hk); (try clear hi); (try clear ho0); obtain ⟨Ao22, co22, eo22⟩ := Kd.R_slice HO182.out; subst eo22; have hgl := (hG.below rfl HB.out).cell 14 (.bool true) rfl) | ((with_reducible refine gate_builtin (b := .append) (xs := #[.tmp 42, .tmp 43]) rfl ?_); at_builtin; refine Kd.R_append_rows (Kd.int .u8) (w0 := w) w.heap.size rfl (.tmp 42) (.tmp 43) 31 5 (.int .u8 0) 1 rfl Tryd.underlying31 info5 rfl (by decide) (by omega) v178 t176 t180 _ _ _ (fun k_ => some k_ ≠ (.slice Ao22 t180.length co22 : Value).ownBlock) (fun _ => False) rfl rfl ?aO ?aR (fun _ _ h => h) (fun _ h => h.elim) ?aF ?aB ?aS ?aL ?_; (case aR => repeat (first | exact (Kd.R_reads' HO182.out).2.2 | (with_reducible refine Kd.C_alloc ?_ _) | (with_reducible refine Kd.C_drewN ?_ _) | (with_reducible refine Kd.C_drew ?_))); (case aB => exact (by repeat (first | (with_reducible first | exact HB.out | apply qqg | apply qqa | apply qqf | refine qqh ?_ GE168.out) | exact HB.out))); (case aF => exact (fun k_ hk => Kd.fresh' (Kd.R_lt (by (with_reducible repeat (first | apply Kd.R_alloc | apply Kd.R_drewN | apply Kd.R_drew)); exact HO182.out)) k_ hk)); (case aO => exact (by (with_reducible repeat (first | apply Kd.R_alloc | apply Kd.R_drewN | apply Kd.R_drew)); exact Kd.R_mono HO179.out (fun _ hk => hk.2))); (case aS => exact (qqk (by repeat (first | (with_reducible first | exact HB.out | apply qqg | apply qqa | apply qqf | refine qqh ?_ GE168.out) | exact HB.out)))); (case aL => have := LMc7.out; omega); intro v185 w21 ho hb hg hat; rw [← Ny184.out] at ho; have n0_ := Aside0.mk (blk_grown (g := gb168) (o := .cells #[.int .i64 2, .int .i64 a0_1, .int .i64 a0_2, .int .i64 a0_3, .int .i64 a0_4, .int .i64 a0_5, .int .i64 a0_6, .int .i64 a0_7, .int .i64 a0_8, .int .i64 a0_9] 29 (0, 0)) (by (with_reducible repeat (first | refine qqc ?_ _ | refine qqe ?_ | refine qqd ?_ _)); exact BK168.out) hg (Kd.R_ne HO179.out BK168.out (by decide))); have n1_ := Aside0.mk (Kd.R_over' (by (with_reducible repeat (first | apply Kd.R_alloc | apply Kd.R_drewN | apply Kd.R_drew)); exact HO172.out) (Kd.R_typed (by (with_reducible repeat (first | apply Kd.R_alloc | apply Kd.R_drewN | apply Kd.R_drew)); exact HO179.out)) (by decide) hg); have n2_ := Aside0.mk (Kd.R_over' (by (with_reducible repeat (first | apply Kd.R_alloc | apply Kd.R_drewN | apply Kd.R_drew)); exact HO175.out) (Kd.R_typed (by (with_reducible repeat (first | apply Kd.R_alloc | apply Kd.R_drewN | apply Kd.R_drew)); exact HO179.out)) (by decide) hg); have n3_ := Aside0.mk (Kd.R_after (ok := (fun _ => True)) (by (with_reducible repeat (first | apply Kd.R_alloc | apply Kd.R_drewN | apply Kd.R_drew)); exact HO182.out) hg hat); have n4_ := Aside0.mk (hb); have n5_ := Aside0.mk (ho); clear BK168; clear HO172; clear HO175; clear HO182; clear HB; clear HO179; have BK168 := n0_; have HO172 := n1_; have HO175 := n2_; have HO182 := n3_; have HB := n4_; have HO186 := n5_; clear n0_ n1_ n2_ n3_ n4_ n5_; clear ho hb hg hat; have hgl := (hG.below rfl HB.out).cell 14 (.bool true) rfl))
 go_ret2
 exact ⟨_, by first | rfl | (simp [qqo, qqn] <;> rfl) | (simp [*, qqo, qqn] <;> rfl), by (with_reducible repeat (first | apply Kd.R_alloc | apply Kd.R_drewN | apply Kd.R_drew)); exact Kd.R_mono HO186.out (fun _ hk => trivial), by repeat (first | (with_reducible first | exact HB.out | apply qqg | apply qqa | apply qqf | refine qqh ?_ GE168.out) | exact HB.out)⟩
set_option maxHeartbeats 8000000 in
set_option maxRecDepth 100000 in
theorem msg_Put.at3 (K : Nat) (a0_1 : Int) (a0_2 : Int) (a0_3 : Int) (a0_4 : Int) (a0_5 : Int) (a0_6 : Int) (a0_7 : Int) (a0_8 : Int) (a0_9 : Int) (w : World) (hG : Glob w) (hM : msg_May.f 3 a0_1 a0_2 a0_3 a0_4 a0_5 a0_6 a0_7 a0_8 a0_9 = some true) (t176 : List Int) (hP : octets_PutAll.f K ([3, a0_1, a0_2, a0_3] : List Int) ([1, 3, 3, 2] : List Int) = some (t176, 0)) :
  Calls Tryd.prog 10 #[.agg #[.int .i64 3, .int .i64 a0_1, .int .i64 a0_2, .int .i64 a0_3, .int .i64 a0_4, .int .i64 a0_5, .int .i64 a0_6, .int .i64 a0_7, .int .i64 a0_8, .int .i64 a0_9]] w fun e w' => ∃ v0_ : Value, e = .returned (.tuple #[v0_, .int .i64 (0)]) ∧ Kd.R (Kd.int .u8) 5 w' w.heap.size (fun _ => True) v0_ (t176) ∧ Below w.heap.size w w' := by
 have hu29 := Tryd.underlying29
 have hu27 := Tryd.underlying27
 have hu48 := Tryd.underlying48
 have hu49 := Tryd.underlying49
 have HB := Aside0.mk (Below.refl w.heap.size w)
 obtain ⟨y170, hy170⟩ : ∃ y_ : List Int, y_ = (([3, a0_1, a0_2, a0_3] : List Int)) := ⟨_, rfl⟩
 rw [← hy170] at hP
 have Ny170 := Aside0.mk hy170
 clear hy170
 obtain ⟨y173, hy173⟩ : ∃ y_ : List Int, y_ = (([1, 3, 3, 2] : List Int)) := ⟨_, rfl⟩
 rw [← hy173] at hP
 have Ny173 := Aside0.mk hy173
 clear hy173
 have AP := Aside0.mk hP
 clear hP
 have AM := Aside0.mk hM
 clear hM
 go_enter Tryd.func10, Tryd.ntmps10
 go_wp2_with (first | ((with_reducible refine qqx (N := 1) rfl ?_); refine box_event ?hg (N := 1) ?hd (cs := #[.int .i64 3, .int .i64 a0_1, .int .i64 a0_2, .int .i64 a0_3, .int .i64 a0_4, .int .i64 a0_5, .int .i64 a0_6, .int .i64 a0_7, .int .i64 a0_8, .int .i64 a0_9]) (t := 29) ?hr ?_; (case hd => rfl); (case hg => rfl); (case hr => first | (go_simp; done) | (go_simp; rfl)); intro gb168 hg w23 hbox hb; have n0_ := Aside0.mk (qqj (by repeat (first | (with_reducible first | exact HB.out | apply qqg | apply qqa | apply qqf) | exact HB.out)) hb); have n1_ := Aside0.mk (hbox); have n2_ := Aside0.mk ((by rw [hg]; exact (qqk (by repeat (first | (with_reducible first | exact HB.out | apply qqg | apply qqa | apply qqf) | exact HB.out))) : w.heap.size ≤ gb168)); have n3_ := Aside0.mk ((by rw [hg]; exact (qqk (by repeat (first | (with_reducible first | exact HB.out | apply qqg | apply qqa | apply qqf) | exact HB.out))) : w.heap.size ≤ gb168)); clear HB; have HB := n0_; have BK168 := n1_; have GW168 := n2_; have GE168 := n3_; clear n0_ n1_ n2_ n3_; clear hb hbox hg; obtain ⟨hcz24_0, hcz24_1, hcz24_2, hcz24_3, hcz24_4, hcz24_5, hcz24_6, hcz24_7, hcz24_8, hcz24_9⟩ := msg_Put.cells10 BK168.out; obtain ⟨hfz24_0, hfz24_1, hfz24_2, hfz24_3, hfz24_4, hfz24_5, hfz24_6, hfz24_7, hfz24_8, hfz24_9⟩ := msg_Put.frozen10 BK168.out; have hgl := (hG.below rfl HB.out).cell 19 (.bool false) rfl) | ((with_reducible refine qqv (f := 13) rfl ?_); refine goesL_ (some 8) rfl rfl Tryd.func13 (by kernel_rfl) rfl #[.agg #[.int .i64 3, .int .i64 a0_1, .int .i64 a0_2, .int .i64 a0_3, .int .i64 a0_4, .int .i64 a0_5, .int .i64 a0_6, .int .i64 a0_7, .int .i64 a0_8, .int .i64 a0_9]] rfl (by (try simp only [List.map_toArray, List.map_cons, List.map_nil]); first | done | rfl | (simp only [List.length_drop, List.length_take]; rfl)) ?_; (with_reducible refine (msg_May.calls 3 a0_1 a0_2 a0_3 a0_4 a0_5 a0_6 a0_7 a0_8 a0_9 true _ (hG.below rfl HB.out) AM.out).mono ?_); rintro e w25 ⟨rfl, hb⟩; refine ⟨_, rfl, ?_⟩; have n0_ := Aside0.mk (qqm (g := gb168) (o := .cells #[.int .i64 3, .int .i64 a0_1, .int .i64 a0_2, .int .i64 a0_3, .int .i64 a0_4, .int .i64 a0_5, .int .i64 a0_6, .int .i64 a0_7, .int .i64 a0_8, .int .i64 a0_9] 29 (0, 0)) (by (with_reducible repeat (first | refine qqc ?_ _ | refine qqe ?_ | refine qqd ?_ _)); exact BK168.out) hb); have n1_ := Aside0.mk (qqj (by repeat (first | (with_reducible first | exact HB.out | apply qqg | apply qqa | apply qqf | refine qqh ?_ GE168.out) | exact HB.out)) hb); clear BK168; clear HB; have BK168 := n0_; have HB := n1_; clear n0_ n1_; (try clear hb); (try clear hb2); (try clear hk); (try clear hi); obtain ⟨hcz26_0, hcz26_1, hcz26_2, hcz26_3, hcz26_4, hcz26_5, hcz26_6, hcz26_7, hcz26_8, hcz26_9⟩ := msg_Put.cells10 BK168.out; obtain ⟨hfz26_0, hfz26_1, hfz26_2, hfz26_3, hfz26_4, hfz26_5, hfz26_6, hfz26_7, hfz26_8, hfz26_9⟩ := msg_Put.frozen10 BK168.out; have hgl := (hG.below rfl HB.out).cell 19 (.bool false) rfl) | ((with_reducible refine qqx (N := 19) rfl ?_); refine Kd.R_lit (Kd.int .i64) _ 3 ?hg (N := 19) ?hd (xs := ([3, a0_1, a0_2, a0_3] : List Int)) (inner := [.int .i64 3, .int .i64 a0_1, .int .i64 a0_2, .int .i64 a0_3]) (ok := fun _ => True) (okp := fun _ => True) ?hr ?hp (fun _ hk => hk) trivial (Below.refl _ _) (Nat.le_refl _) (by simp) ?_; (case hd => rfl); (case hg => rfl); (case hr => first | (go_simp; done) | (go_simp; rfl)); (case hp => exact (Reps.one (show Kd.M (Kd.int .i64) _ _ _ 3 [.int .i64 3] from rfl) (Reps.one (show Kd.M (Kd.int .i64) _ _ _ a0_1 [.int .i64 a0_1] from rfl) (Reps.one (show Kd.M (Kd.int .i64) _ _ _ a0_2 [.int .i64 a0_2] from rfl) (Reps.one (show Kd.M (Kd.int .i64) _ _ _ a0_3 [.int .i64 a0_3] from rfl) (Reps.none _ _)))))); intro v171 w27 ho28 hb hg_ hnew_; clear hg_ hnew_; (first | rw [← Ny170.out] at ho28 | (simp only [Int.reduceToNat] at ho28; rw [← Ny170.out] at ho28)); have n0_ := Aside0.mk (Kd.R_lower ho28 (qqk (by repeat (first | (with_reducible first | exact HB.out | apply qqg | apply qqa | apply qqf | refine qqh ?_ GE168.out) | exact HB.out)))); have n1_ := Aside0.mk (qqm (g := gb168) (o := .cells #[.int .i64 3, .int .i64 a0_1, .int .i64 a0_2, .int .i64 a0_3, .int .i64 a0_4, .int .i64 a0_5, .int .i64 a0_6, .int .i64 a0_7, .int .i64 a0_8, .int .i64 a0_9] 29 (0, 0)) (by (with_reducible repeat (first | refine qqc ?_ _ | refine qqe ?_ | refine qqd ?_ _)); exact BK168.out) hb); have n2_ := Aside0.mk (qqj (by repeat (first | (with_reducible first | exact HB.out | apply qqg | apply qqa | apply qqf | refine qqh ?_ GE168.out) | exact HB.out)) hb); clear BK168; clear HB; have HO172 := n0_; have BK168 := n1_; have HB := n2_; clear n0_ n1_ n2_; clear hb ho28; have hgl := (hG.below rfl HB.out).cell 19 (.bool false) rfl) | ((with_reducible refine qqx (N := 20) rfl ?_); refine Kd.R_lit (Kd.int .i64) _ 3 ?hg (N := 20) ?hd (xs := ([1, 3, 3, 2] : List Int)) (inner := [.int .i64 1, .int .i64 3, .int .i64 3, .int .i64 2]) (ok := fun _ => True) (okp := fun _ => True) ?hr ?hp (fun _ hk => hk) trivial (Below.refl _ _) (Nat.le_refl _) (by simp) ?_; (case hd => rfl); (case hg => rfl); (case hr => first | (go_simp; done) | (go_simp; rfl)); (case hp => exact (Reps.one (show Kd.M (Kd.int .i64) _ _ _ 1 [.int .i64 1] from rfl) (Reps.one (show Kd.M (Kd.int .i64) _ _ _ 3 [.int .i64 3] from rfl) (Reps.one (show Kd.M (Kd.int .i64) _ _ _ 3 [.int .i64 3] from rfl) (Reps.one (show Kd.M (Kd.int .i64) _ _ _ 2 [.int .i64 2] from rfl) (Reps.none _ _)))))); intro v174 w29 ho30 hb hg_ hnew_; clear hg_ hnew_; (first | rw [← Ny173.out] at ho30 | (simp only [Int.reduceToNat] at ho30; rw [← Ny173.out] at ho30)); have n0_ := Aside0.mk (Kd.R_elder' (by (with_reducible repeat (first | apply Kd.R_alloc | apply Kd.R_drewN | apply Kd.R_drew)); exact HO172.out) (Kd.R_base ho30) hb); have n1_ := Aside0.mk (Kd.R_lower (Kd.R_new' ho30 (Kd.R_lt (by (with_reducible repeat (first | apply Kd.R_alloc | apply Kd.R_drewN | apply Kd.R_drew)); exact HO172.out))) (qqk (by repeat (first | (with_reducible first | exact HB.out | apply qqg | apply qqa | apply qqf | refine qqh ?_ GE168.out) | exact HB.out)))); have n2_ := Aside0.mk (qqm (g := gb168) (o := .cells #[.int .i64 3, .int .i64 a0_1, .int .i64 a0_2, .int .i64 a0_3, .int .i64 a0_4, .int .i64 a0_5, .int .i64 a0_6, .int .i64 a0_7, .int .i64 a0_8, .int .i64 a0_9] 29 (0, 0)) (by (with_reducible repeat (first | refine qqc ?_ _ | refine qqe ?_ | refine qqd ?_ _)); exact BK168.out) hb); have n3_ := Aside0.mk (qqj (by repeat (first | (with_reducible first | exact HB.out | apply qqg | apply qqa | apply qqf | refine qqh ?_ GE168.out) | exact HB.out)) hb); clear HO172; clear BK168; clear HB; have HO172 := n0_; have HO175 := n1_; have BK168 := n2_; have HB := n3_; clear n0_ n1_ n2_ n3_; clear hb ho30; obtain ⟨Ao31, co31, eo31⟩ := Kd.R_slice HO172.out; subst eo31; obtain ⟨Ao32, co32, eo32⟩ := Kd.R_slice HO175.out; subst eo32; have hgl := (hG.below rfl HB.out).cell 19 (.bool false) rfl) | ((with_reducible refine qqv (f := 16) rfl ?_); refine goesL_ (some 21) rfl rfl Tryd.func16 (by kernel_rfl) rfl #[.slice Ao31 y170.length co31, .slice Ao32 y173.length co32] rfl (by (try simp only [List.map_toArray, List.map_cons, List.map_nil]); first | done | rfl | (simp only [List.length_drop, List.length_take]; rfl)) ?_; (with_reducible refine (octets_PutAll.calls K _ _ y170 _ _ y173 t176 0 _ ?side1 ?side2 ?side3 ?side4 AP.out).mono ?_); (case side1 => repeat (first | exact (Kd.R_reads' HO172.out).2.2 | (with_reducible refine Kd.C_alloc ?_ _) | (with_reducible refine Kd.C_drewN ?_ _) | (with_reducible refine Kd.C_drew ?_))); (case side2 => exact (Kd.R_reads' HO172.out).2.1); (case side3 => repeat (first | exact (Kd.R_reads' HO175.out).2.2 | (with_reducible refine Kd.C_alloc ?_ _) | (with_reducible refine Kd.C_drewN ?_ _) | (with_reducible refine Kd.C_drew ?_))); (case side4 => exact (Kd.R_reads' HO175.out).2.1); rintro e w33 ⟨v178, rfl, ho0, hb⟩; refine ⟨_, rfl, ?_⟩; have n0_ := Aside0.mk (Kd.R_below (by (with_reducible repeat (first | apply Kd.R_alloc | apply Kd.R_drewN | apply Kd.R_drew)); exact HO172.out) hb); have n1_ := Aside0.mk (Kd.R_below (by (with_reducible repeat (first | apply Kd.R_alloc | apply Kd.R_drewN | apply Kd.R_drew)); exact HO175.out) hb); have n2_ := Aside0.mk (Kd.R_lower ho0 (qqk (by repeat (first | (with_reducible first | exact HB.out | apply qqg | apply qqa | apply qqf | refine qqh ?_ GE168.out) | exact HB.out)))); have n3_ := Aside0.mk (qqm (g := gb168) (o := .cells #[.int .i64 3, .int .i64 a0_1, .int .i64 a0_2, .int .i64 a0_3, .int .i64 a0_4, .int .i64 a0_5, .int .i64 a0_6, .int .i64 a0_7, .int .i64 a0_8, .int .i64 a0_9] 29 (0, 0)) (by (with_reducible repeat (first | refine qqc ?_ _ | refine qqe ?_ | refine qqd ?_ _)); exact BK168.out) hb); have n4_ := Aside0.mk (qqj (by repeat (first | (with_reducible first | exact HB.out | apply qqg | apply qqa | apply qqf | refine qqh ?_ GE168.out) | exact HB.out)) hb); clear HO172; clear HO175; clear BK168; clear HB; have HO172 := n0_; have HO175 := n1_; have HO179 := n2_; have BK168 := n3_; have HB := n4_; clear n0_ n1_ n2_ n3_ n4_; (try clear hb); (try clear hb2); (try clear hk); (try clear hi); (try clear ho0); obtain ⟨hcz34_0, hcz34_1, hcz34_2, hcz34_3, hcz34_4, hcz34_5, hcz34_6, hcz34_7, hcz34_8, hcz34_9⟩ := msg_Put.cells10 BK168.out; obtain ⟨hfz34_0, hfz34_1, hfz34_2, hfz34_3, hfz34_4, hfz34_5, hfz34_6, hfz34_7, hfz34_8, hfz34_9⟩ := msg_Put.frozen10 BK168.out; have hgl := (hG.below rfl HB.out).cell 19 (.bool false) rfl))
 go_ret2
 exact ⟨_, by first | rfl | (simp [qqo, qqn] <;> rfl) | (simp [*, qqo, qqn] <;> rfl), by (with_reducible repeat (first | apply Kd.R_alloc | apply Kd.R_drewN | apply Kd.R_drew)); exact HO179.out, by repeat (first | (with_reducible first | exact HB.out | apply qqg | apply qqa | apply qqf | refine qqh ?_ GE168.out) | exact HB.out)⟩
set_option maxHeartbeats 8000000 in
set_option maxRecDepth 100000 in
theorem msg_Put.at4 (K : Nat) (a0_1 : Int) (a0_2 : Int) (a0_3 : Int) (a0_4 : Int) (a0_5 : Int) (a0_6 : Int) (a0_7 : Int) (a0_8 : Int) (a0_9 : Int) (w : World) (hG : Glob w) (hM : msg_May.f 4 a0_1 a0_2 a0_3 a0_4 a0_5 a0_6 a0_7 a0_8 a0_9 = some true) (t176 : List Int) (hP : octets_PutAll.f K ([4, a0_1, a0_2, a0_3] : List Int) ([1, 3, 3, 2] : List Int) = some (t176, 0)) :
  Calls Tryd.prog 10 #[.agg #[.int .i64 4, .int .i64 a0_1, .int .i64 a0_2, .int .i64 a0_3, .int .i64 a0_4, .int .i64 a0_5, .int .i64 a0_6, .int .i64 a0_7, .int .i64 a0_8, .int .i64 a0_9]] w fun e w' => ∃ v0_ : Value, e = .returned (.tuple #[v0_, .int .i64 (0)]) ∧ Kd.R (Kd.int .u8) 5 w' w.heap.size (fun _ => True) v0_ (t176) ∧ Below w.heap.size w w' := by
 have hu29 := Tryd.underlying29
 have hu27 := Tryd.underlying27
 have hu48 := Tryd.underlying48
 have hu49 := Tryd.underlying49
 have HB := Aside0.mk (Below.refl w.heap.size w)
 obtain ⟨y170, hy170⟩ : ∃ y_ : List Int, y_ = (([4, a0_1, a0_2, a0_3] : List Int)) := ⟨_, rfl⟩
 rw [← hy170] at hP
 have Ny170 := Aside0.mk hy170
 clear hy170
 obtain ⟨y173, hy173⟩ : ∃ y_ : List Int, y_ = (([1, 3, 3, 2] : List Int)) := ⟨_, rfl⟩
 rw [← hy173] at hP
 have Ny173 := Aside0.mk hy173
 clear hy173
 have AP := Aside0.mk hP
 clear hP
 have AM := Aside0.mk hM
 clear hM
 go_enter Tryd.func10, Tryd.ntmps10
 go_wp2_with (first | ((with_reducible refine qqx (N := 1) rfl ?_); refine box_event ?hg (N := 1) ?hd (cs := #[.int .i64 4, .int .i64 a0_1, .int .i64 a0_2, .int .i64 a0_3, .int .i64 a0_4, .int .i64 a0_5, .int .i64 a0_6, .int .i64 a0_7, .int .i64 a0_8, .int .i64 a0_9]) (t := 29) ?hr ?_; (case hd => rfl); (case hg => rfl); (case hr => first | (go_simp; done) | (go_simp; rfl)); intro gb168 hg w23 hbox hb; have n0_ := Aside0.mk (qqj (by repeat (first | (with_reducible first | exact HB.out | apply qqg | apply qqa | apply qqf) | exact HB.out)) hb); have n1_ := Aside0.mk (hbox); have n2_ := Aside0.mk ((by rw [hg]; exact (qqk (by repeat (first | (with_reducible first | exact HB.out | apply qqg | apply qqa | apply qqf) | exact HB.out))) : w.heap.size ≤ gb168)); have n3_ := Aside0.mk ((by rw [hg]; exact (qqk (by repeat (first | (with_reducible first | exact HB.out | apply qqg | apply qqa | apply qqf) | exact HB.out))) : w.heap.size ≤ gb168)); clear HB; have HB := n0_; have BK168 := n1_; have GW168 := n2_; have GE168 := n3_; clear n0_ n1_ n2_ n3_; clear hb hbox hg; obtain ⟨hcz24_0, hcz24_1, hcz24_2, hcz24_3, hcz24_4, hcz24_5, hcz24_6, hcz24_7, hcz24_8, hcz24_9⟩ := msg_Put.cells10 BK168.out; obtain ⟨hfz24_0, hfz24_1, hfz24_2, hfz24_3, hfz24_4, hfz24_5, hfz24_6, hfz24_7, hfz24_8, hfz24_9⟩ := msg_Put.frozen10 BK168.out; have hgl := (hG.below rfl HB.out).cell 24 (.bool false) rfl) | ((with_reducible refine qqv (f := 13) rfl ?_); refine goesL_ (some 8) rfl rfl Tryd.func13 (by kernel_rfl) rfl #[.agg #[.int .i64 4, .int .i64 a0_1, .int .i64 a0_2, .int .i64 a0_3, .int .i64 a0_4, .int .i64 a0_5, .int .i64 a0_6, .int .i64 a0_7, .int .i64 a0_8, .int .i64 a0_9]] rfl (by (try simp only [List.map_toArray, List.map_cons, List.map_nil]); first | done | rfl | (simp only [List.length_drop, List.length_take]; rfl)) ?_; (with_reducible refine (msg_May.calls 4 a0_1 a0_2 a0_3 a0_4 a0_5 a0_6 a0_7 a0_8 a0_9 true _ (hG.below rfl HB.out) AM.out).mono ?_); rintro e w25 ⟨rfl, hb⟩; refine ⟨_, rfl, ?_⟩; have n0_ := Aside0.mk (qqm (g := gb168) (o := .cells #[.int .i64 4, .int .i64 a0_1, .int .i64 a0_2, .int .i64 a0_3, .int .i64 a0_4, .int .i64 a0_5, .int .i64 a0_6, .int .i64 a0_7, .int .i64 a0_8, .int .i64 a0_9] 29 (0, 0)) (by (with_reducible repeat (first | refine qqc ?_ _ | refine qqe ?_ | refine qqd ?_ _)); exact BK168.out) hb); have n1_ := Aside0.mk (qqj (by repeat (first | (with_reducible first | exact HB.out | apply qqg | apply qqa | apply qqf | refine qqh ?_ GE168.out) | exact HB.out)) hb); clear BK168; clear HB; have BK168 := n0_; have HB := n1_; clear n0_ n1_; (try clear hb); (try clear hb2); (try clear hk); (try clear hi); obtain ⟨hcz26_0, hcz26_1, hcz26_2, hcz26_3, hcz26_4, hcz26_5, hcz26_6, hcz26_7, hcz26_8, hcz26_9⟩ := msg_Put.cells10 BK168.out; obtain ⟨hfz26_0, hfz26_1, hfz26_2, hfz26_3, hfz26_4, hfz26_5, hfz26_6, hfz26_7, hfz26_8, hfz26_9⟩ := msg_Put.frozen10 BK168.out; have hgl := (hG.below rfl HB.out).cell 24 (.bool false) rfl) | ((with_reducible refine qqx (N := 19) rfl ?_); refine Kd.R_lit (Kd.int .i64) _ 3 ?hg (N := 19) ?hd (xs := ([4, a0_1, a0_2, a0_3] : List Int)) (inner := [.int .i64 4, .int .i64 a0_1, .int .i64 a0_2, .int .i64 a0_3]) (ok := fun _ => True) (okp := fun _ => True) ?hr ?hp (fun _ hk => hk) trivial (Below.refl _ _) (Nat.le_refl _) (by simp) ?_; (case hd => rfl); (case hg => rfl); (case hr => first | (go_simp; done) | (go_simp; rfl)); (case hp => exact (Reps.one (show Kd.M (Kd.int .i64) _ _ _ 4 [.int .i64 4] from rfl) (Reps.one (show Kd.M (Kd.int .i64) _ _ _ a0_1 [.int .i64 a0_1] from rfl) (Reps.one (show Kd.M (Kd.int .i64) _ _ _ a0_2 [.int .i64 a0_2] from rfl) (Reps.one (show Kd.M (Kd.int .i64) _ _ _ a0_3 [.int .i64 a0_3] from rfl) (Reps.none _ _)))))); intro v171 w27 ho28 hb hg_ hnew_; clear hg_ hnew_; (first | rw [← Ny170.out] at ho28 | (simp only [Int.reduceToNat] at ho28; rw [← Ny170.out] at ho28)); have n0_ := Aside0.mk (Kd.R_lower ho28 (qqk (by repeat (first | (with_reducible first | exact HB.out | apply qqg | apply qqa | apply qqf | refine qqh ?_ GE168.out) | exact HB.out)))); have n1_ := Aside0.mk (qqm (g := gb168) (o := .cells #[.int .i64 4, .int .i64 a0_1, .int .i64 a0_2, .int .i64 a0_3, .int .i64 a0_4, .int .i64 a0_5, .int .i64 a0_6, .int .i64 a0_7, .int .i64 a0_8, .int .i64 a0_9] 29 (0, 0)) (by (with_reducible repeat (first | refine qqc ?_ _ | refine qqe ?_ | refine qqd ?_ _)); exact BK168.out) hb); have n2_ := Aside0.mk (qqj (by repeat (first | (with_reducible first | exact HB.out | apply qqg | apply qqa | apply qqf | refine qqh ?_ GE168.out) | exact HB.out)) hb); clear BK168; clear HB; have HO172 := n0_; have BK168 := n1_; have HB := n2_; clear n0_ n1_ n2_; clear hb ho28; have hgl := (hG.below rfl HB.out).cell 24 (.bool false) rfl) | ((with_reducible refine qqx (N := 20) rfl ?_); refine Kd.R_lit (Kd.int .i64) _ 3 ?hg (N := 20) ?hd (xs := ([1, 3, 3, 2] : List Int)) (inner := [.int .i64 1, .int .i64 3, .int .i64 3, .int .i64 2]) (ok := fun _ => True) (okp := fun _ => True) ?hr ?hp (fun _ hk => hk) trivial (Below.refl _ _) (Nat.le_refl _) (by simp) ?_; (case hd => rfl); (case hg => rfl); (case hr => first | (go_simp; done) | (go_simp; rfl)); (case hp => exact (Reps.one (show Kd.M (Kd.int .i64) _ _ _ 1 [.int .i64 1] from rfl) (Reps.one (show Kd.M (Kd.int .i64) _ _ _ 3 [.int .i64 3] from rfl) (Reps.one (show Kd.M (Kd.int .i64) _ _ _ 3 [.int .i64 3] from rfl) (Reps.one (show Kd.M (Kd.int .i64) _ _ _ 2 [.int .i64 2] from rfl) (Reps.none _ _)))))); intro v174 w29 ho30 hb hg_ hnew_; clear hg_ hnew_; (first | rw [← Ny173.out] at ho30 | (simp only [Int.reduceToNat] at ho30; rw [← Ny173.out] at ho30)); have n0_ := Aside0.mk (Kd.R_elder' (by (with_reducible repeat (first | apply Kd.R_alloc | apply Kd.R_drewN | apply Kd.R_drew)); exact HO172.out) (Kd.R_base ho30) hb); have n1_ := Aside0.mk (Kd.R_lower (Kd.R_new' ho30 (Kd.R_lt (by (with_reducible repeat (first | apply Kd.R_alloc | apply Kd.R_drewN | apply Kd.R_drew)); exact HO172.out))) (qqk (by repeat (first | (with_reducible first | exact HB.out | apply qqg | apply qqa | apply qqf | refine qqh ?_ GE168.out) | exact HB.out)))); have n2_ := Aside0.mk (qqm (g := gb168) (o := .cells #[.int .i64 4, .int .i64 a0_1, .int .i64 a0_2, .int .i64 a0_3, .int .i64 a0_4, .int .i64 a0_5, .int .i64 a0_6, .int .i64 a0_7, .int .i64 a0_8, .int .i64 a0_9] 29 (0, 0)) (by (with_reducible repeat (first | refine qqc ?_ _ | refine qqe ?_ | refine qqd ?_ _)); exact BK168.out) hb); have n3_ := Aside0.mk (qqj (by repeat (first | (with_reducible first | exact HB.out | apply qqg | apply qqa | apply qqf | refine qqh ?_ GE168.out) | exact HB.out)) hb); clear HO172; clear BK168; clear HB; have HO172 := n0_; have HO175 := n1_; have BK168 := n2_; have HB := n3_; clear n0_ n1_ n2_ n3_; clear hb ho30; obtain ⟨Ao31, co31, eo31⟩ := Kd.R_slice HO172.out; subst eo31; obtain ⟨Ao32, co32, eo32⟩ := Kd.R_slice HO175.out; subst eo32; have hgl := (hG.below rfl HB.out).cell 24 (.bool false) rfl) | ((with_reducible refine qqv (f := 16) rfl ?_); refine goesL_ (some 21) rfl rfl Tryd.func16 (by kernel_rfl) rfl #[.slice Ao31 y170.length co31, .slice Ao32 y173.length co32] rfl (by (try simp only [List.map_toArray, List.map_cons, List.map_nil]); first | done | rfl | (simp only [List.length_drop, List.length_take]; rfl)) ?_; (with_reducible refine (octets_PutAll.calls K _ _ y170 _ _ y173 t176 0 _ ?side1 ?side2 ?side3 ?side4 AP.out).mono ?_); (case side1 => repeat (first | exact (Kd.R_reads' HO172.out).2.2 | (with_reducible refine Kd.C_alloc ?_ _) | (with_reducible refine Kd.C_drewN ?_ _) | (with_reducible refine Kd.C_drew ?_))); (case side2 => exact (Kd.R_reads' HO172.out).2.1); (case side3 => repeat (first | exact (Kd.R_reads' HO175.out).2.2 | (with_reducible refine Kd.C_alloc ?_ _) | (with_reducible refine Kd.C_drewN ?_ _) | (with_reducible refine Kd.C_drew ?_))); (case side4 => exact (Kd.R_reads' HO175.out).2.1); rintro e w33 ⟨v178, rfl, ho0, hb⟩; refine ⟨_, rfl, ?_⟩; have n0_ := Aside0.mk (Kd.R_below (by (with_reducible repeat (first | apply Kd.R_alloc | apply Kd.R_drewN | apply Kd.R_drew)); exact HO172.out) hb); have n1_ := Aside0.mk (Kd.R_below (by (with_reducible repeat (first | apply Kd.R_alloc | apply Kd.R_drewN | apply Kd.R_drew)); exact HO175.out) hb); have n2_ := Aside0.mk (Kd.R_lower ho0 (qqk (by repeat (first | (with_reducible first | exact HB.out | apply qqg | apply qqa | apply qqf | refine qqh ?_ GE168.out) | exact HB.out)))); have n3_ := Aside0.mk (qqm (g := gb168) (o := .cells #[.int .i64 4, .int .i64 a0_1, .int .i64 a0_2, .int .i64 a0_3, .int .i64 a0_4, .int .i64 a0_5, .int .i64 a0_6, .int .i64 a0_7, .int .i64 a0_8, .int .i64 a0_9] 29 (0, 0)) (by (with_reducible repeat (first | refine qqc ?_ _ | refine qqe ?_ | refine qqd ?_ _)); exact BK168.out) hb); have n4_ := Aside0.mk (qqj (by repeat (first | (with_reducible first | exact HB.out | apply qqg | apply qqa | apply qqf | refine qqh ?_ GE168.out) | exact HB.out)) hb); clear HO172; clear HO175; clear BK168; clear HB; have HO172 := n0_; have HO175 := n1_; have HO179 := n2_; have BK168 := n3_; have HB := n4_; clear n0_ n1_ n2_ n3_ n4_; (try clear hb); (try clear hb2); (try clear hk); (try clear hi); (try clear ho0); obtain ⟨hcz34_0, hcz34_1, hcz34_2, hcz34_3, hcz34_4, hcz34_5, hcz34_6, hcz34_7, hcz34_8, hcz34_9⟩ := msg_Put.cells10 BK168.out; obtain ⟨hfz34_0, hfz34_1, hfz34_2, hfz34_3, hfz34_4, hfz34_5, hfz34_6, hfz34_7, hfz34_8, hfz34_9⟩ := msg_Put.frozen10 BK168.out; have hgl := (hG.below rfl HB.out).cell 24 (.bool false) rfl))
 go_ret2
 exact ⟨_, by first | rfl | (simp [qqo, qqn] <;> rfl) | (simp [*, qqo, qqn] <;> rfl), by (with_reducible repeat (first | apply Kd.R_alloc | apply Kd.R_drewN | apply Kd.R_drew)); exact HO179.out, by repeat (first | (with_reducible first | exact HB.out | apply qqg | apply qqa | apply qqf | refine qqh ?_ GE168.out) | exact HB.out)⟩
set_option maxHeartbeats 8000000 in
set_option maxRecDepth 100000 in
theorem msg_Put.at5 (K : Nat) (a0_1 : Int) (a0_2 : Int) (a0_3 : Int) (a0_4 : Int) (a0_5 : Int) (a0_6 : Int) (a0_7 : Int) (a0_8 : Int) (a0_9 : Int) (w : World) (hG : Glob w) (hM : msg_May.f 5 a0_1 a0_2 a0_3 a0_4 a0_5 a0_6 a0_7 a0_8 a0_9 = some true) (t176 : List Int) (hP : octets_PutAll.f K ([5, a0_1, a0_2, a0_3] : List Int) ([1, 3, 3, 2] : List Int) = some (t176, 0)) :
  Calls Tryd.prog 10 #[.agg #[.int .i64 5, .int .i64 a0_1, .int .i64 a0_2, .int .i64 a0_3, .int .i64 a0_4, .int .i64 a0_5, .int .i64 a0_6, .int .i64 a0_7, .int .i64 a0_8, .int .i64 a0_9]] w fun e w' => ∃ v0_ : Value, e = .returned (.tuple #[v0_, .int .i64 (0)]) ∧ Kd.R (Kd.int .u8) 5 w' w.heap.size (fun _ => True) v0_ (t176) ∧ Below w.heap.size w w' := by
 have hu29 := Tryd.underlying29
 have hu27 := Tryd.underlying27
 have hu48 := Tryd.underlying48
 have hu49 := Tryd.underlying49
 have HB := Aside0.mk (Below.refl w.heap.size w)
 obtain ⟨y170, hy170⟩ : ∃ y_ : List Int, y_ = (([5, a0_1, a0_2, a0_3] : List Int)) := ⟨_, rfl⟩
 rw [← hy170] at hP
 have Ny170 := Aside0.mk hy170
 clear hy170
 obtain ⟨y173, hy173⟩ : ∃ y_ : List Int, y_ = (([1, 3, 3, 2] : List Int)) := ⟨_, rfl⟩
 rw [← hy173] at hP
 have Ny173 := Aside0.mk hy173
 clear hy173
 have AP := Aside0.mk hP
 clear hP
 have AM := Aside0.mk hM
 clear hM
 go_enter Tryd.func10, Tryd.ntmps10
 go_wp2_with (first | ((with_reducible refine qqx (N := 1) rfl ?_); refine box_event ?hg (N := 1) ?hd (cs := #[.int .i64 5, .int .i64 a0_1, .int .i64 a0_2, .int .i64 a0_3, .int .i64 a0_4, .int .i64 a0_5, .int .i64 a0_6, .int .i64 a0_7, .int .i64 a0_8, .int .i64 a0_9]) (t := 29) ?hr ?_; (case hd => rfl); (case hg => rfl); (case hr => first | (go_simp; done) | (go_simp; rfl)); intro gb168 hg w23 hbox hb; have n0_ := Aside0.mk (qqj (by repeat (first | (with_reducible first | exact HB.out | apply qqg | apply qqa | apply qqf) | exact HB.out)) hb); have n1_ := Aside0.mk (hbox); have n2_ := Aside0.mk ((by rw [hg]; exact (qqk (by repeat (first | (with_reducible first | exact HB.out | apply qqg | apply qqa | apply qqf) | exact HB.out))) : w.heap.size ≤ gb168)); have n3_ := Aside0.mk ((by rw [hg]; exact (qqk (by repeat (first | (with_reducible first | exact HB.out | apply qqg | apply qqa | apply qqf) | exact HB.out))) : w.heap.size ≤ gb168)); clear HB; have HB := n0_; have BK168 := n1_; have GW168 := n2_; have GE168 := n3_; clear n0_ n1_ n2_ n3_; clear hb hbox hg; obtain ⟨hcz24_0, hcz24_1, hcz24_2, hcz24_3, hcz24_4, hcz24_5, hcz24_6, hcz24_7, hcz24_8, hcz24_9⟩ := msg_Put.cells10 BK168.out; obtain ⟨hfz24_0, hfz24_1, hfz24_2, hfz24_3, hfz24_4, hfz24_5, hfz24_6, hfz24_7, hfz24_8, hfz24_9⟩ := msg_Put.frozen10 BK168.out; have hgl := (hG.below rfl HB.out).cell 29 (.bool false) rfl) | ((with_reducible refine qqv (f := 13) rfl ?_); refine goesL_ (some 8) rfl rfl Tryd.func13 (by kernel_rfl) rfl #[.agg #[.int .i64 5, .int .i64 a0_1, .int .i64 a0_2, .int .i64 a0_3, .int .i64 a0_4, .int .i64 a0_5, .int .i64 a0_6, .int .i64 a0_7, .int .i64 a0_8, .int .i64 a0_9]] rfl (by (try simp only [List.map_toArray, List.map_cons, List.map_nil]); first | done | rfl | (simp only [List.length_drop, List.length_take]; rfl)) ?_; (with_reducible refine (msg_May.calls 5 a0_1 a0_2 a0_3 a0_4 a0_5 a0_6 a0_7 a0_8 a0_9 true _ (hG.below rfl HB.out) AM.out).mono ?_); rintro e w25 ⟨rfl, hb⟩; refine ⟨_, rfl, ?_⟩; have n0_ := Aside0.mk (qqm (g := gb168) (o := .cells #[.int .i64 5, .int .i64 a0_1, .int .i64 a0_2, .int .i64 a0_3, .int .i64 a0_4, .int .i64 a0_5, .int .i64 a0_6, .int .i64 a0_7, .int .i64 a0_8, .int .i64 a0_9] 29 (0, 0)) (by (with_reducible repeat (first | refine qqc ?_ _ | refine qqe ?_ | refine qqd ?_ _)); exact BK168.out) hb); have n1_ := Aside0.mk (qqj (by repeat (first | (with_reducible first | exact HB.out | apply qqg | apply qqa | apply qqf | refine qqh ?_ GE168.out) | exact HB.out)) hb); clear BK168; clear HB; have BK168 := n0_; have HB := n1_; clear n0_ n1_; (try clear hb); (try clear hb2); (try clear hk); (try clear hi); obtain ⟨hcz26_0, hcz26_1, hcz26_2, hcz26_3, hcz26_4, hcz26_5, hcz26_6, hcz26_7, hcz26_8, hcz26_9⟩ := msg_Put.cells10 BK168.out; obtain ⟨hfz26_0, hfz26_1, hfz26_2, hfz26_3, hfz26_4, hfz26_5, hfz26_6, hfz26_7, hfz26_8, hfz26_9⟩ := msg_Put.frozen10 BK168.out; have hgl := (hG.below rfl HB.out).cell 29 (.bool false) rfl) | ((with_reducible refine qqx (N := 19) rfl ?_); refine Kd.R_lit (Kd.int .i64) _ 3 ?hg (N := 19) ?hd (xs := ([5, a0_1, a0_2, a0_3] : List Int)) (inner := [.int .i64 5, .int .i64 a0_1, .int .i64 a0_2, .int .i64 a0_3]) (ok := fun _ => True) (okp := fun _ => True) ?hr ?hp (fun _ hk => hk) trivial (Below.refl _ _) (Nat.le_refl _) (by simp) ?_; (case hd => rfl); (case hg => rfl); (case hr => first | (go_simp; done) | (go_simp; rfl)); (case hp => exact (Reps.one (show Kd.M (Kd.int .i64) _ _ _ 5 [.int .i64 5] from rfl) (Reps.one (show Kd.M (Kd.int .i64) _ _ _ a0_1 [.int .i64 a0_1] from rfl) (Reps.one (show Kd.M (Kd.int .i64) _ _ _ a0_2 [.int .i64 a0_2] from rfl) (Reps.one (show Kd.M (Kd.int .i64) _ _ _ a0_3 [.int .i64 a0_3] from rfl) (Reps.none _ _)))))); intro v171 w27 ho28 hb hg_ hnew_; clear hg_ hnew_; (first | rw [← Ny170.out] at ho28 | (simp only [Int.reduceToNat] at ho28; rw [← Ny170.out] at ho28)); have n0_ := Aside0.mk (Kd.R_lower ho28 (qqk (by repeat (first | (with_reducible first | exact HB.out | apply qqg | apply qqa | apply qqf | refine qqh ?_ GE168.out) | exact HB.out)))); have n1_ := Aside0.mk (qqm (g := gb168) (o := .cells #[.int .i64 5, .int .i64 a0_1, .int .i64 a0_2, .int .i64 a0_3, .int .i64 a0_4, .int .i64 a0_5, .int .i64 a0_6, .int .i64 a0_7, .int .i64 a0_8, .int .i64 a0_9] 29 (0, 0)) (by (with_reducible repeat (first | refine qqc ?_ _ | refine qqe ?_ | refine qqd ?_ _)); exact BK168.out) hb); have n2_ := Aside0.mk (qqj (by repeat (first | (with_reducible first | exact HB.out | apply qqg | apply qqa | apply qqf | refine qqh ?_ GE168.out) | exact HB.out)) hb); clear BK168; clear HB; have HO172 := n0_; have BK168 := n1_; have HB := n2_; clear n0_ n1_ n2_; clear hb ho28; have hgl := (hG.below rfl HB.out).cell 29 (.bool false) rfl) | ((with_reducible refine qqx (N := 20) rfl ?_); refine Kd.R_lit (Kd.int .i64) _ 3 ?hg (N := 20) ?hd (xs := ([1, 3, 3, 2] : List Int)) (inner := [.int .i64 1, .int .i64 3, .int .i64 3, .int .i64 2]) (ok := fun _ => True) (okp := fun _ => True) ?hr ?hp (fun _ hk => hk) trivial (Below.refl _ _) (Nat.le_refl _) (by simp) ?_; (case hd => rfl); (case hg => rfl); (case hr => first | (go_simp; done) | (go_simp; rfl)); (case hp => exact (Reps.one (show Kd.M (Kd.int .i64) _ _ _ 1 [.int .i64 1] from rfl) (Reps.one (show Kd.M (Kd.int .i64) _ _ _ 3 [.int .i64 3] from rfl) (Reps.one (show Kd.M (Kd.int .i64) _ _ _ 3 [.int .i64 3] from rfl) (Reps.one (show Kd.M (Kd.int .i64) _ _ _ 2 [.int .i64 2] from rfl) (Reps.none _ _)))))); intro v174 w29 ho30 hb hg_ hnew_; clear hg_ hnew_; (first | rw [← Ny173.out] at ho30 | (simp only [Int.reduceToNat] at ho30; rw [← Ny173.out] at ho30)); have n0_ := Aside0.mk (Kd.R_elder' (by (with_reducible repeat (first | apply Kd.R_alloc | apply Kd.R_drewN | apply Kd.R_drew)); exact HO172.out) (Kd.R_base ho30) hb); have n1_ := Aside0.mk (Kd.R_lower (Kd.R_new' ho30 (Kd.R_lt (by (with_reducible repeat (first | apply Kd.R_alloc | apply Kd.R_drewN | apply Kd.R_drew)); exact HO172.out))) (qqk (by repeat (first | (with_reducible first | exact HB.out | apply qqg | apply qqa | apply qqf | refine qqh ?_ GE168.out) | exact HB.out)))); have n2_ := Aside0.mk (qqm (g := gb168) (o := .cells #[.int .i64 5, .int .i64 a0_1, .int .i64 a0_2, .int .i64 a0_3, .int .i64 a0_4, .int .i64 a0_5, .int .i64 a0_6, .int .i64 a0_7, .int .i64 a0_8, .int .i64 a0_9] 29 (0, 0)) (by (with_reducible repeat (first | refine qqc ?_ _ | refine qqe ?_ | refine qqd ?_ _)); exact BK168.out) hb); have n3_ := Aside0.mk (qqj (by repeat (first | (with_reducible first | exact HB.out | apply qqg | apply qqa | apply qqf | refine qqh ?_ GE168.out) | exact HB.out)) hb); clear HO172; clear BK168; clear HB; have HO172 := n0_; have HO175 := n1_; have BK168 := n2_; have HB := n3_; clear n0_ n1_ n2_ n3_; clear hb ho30; obtain ⟨Ao31, co31, eo31⟩ := Kd.R_slice HO172.out; subst eo31; obtain ⟨Ao32, co32, eo32⟩ := Kd.R_slice HO175.out; subst eo32; have hgl := (hG.below rfl HB.out).cell 29 (.bool false) rfl) | ((with_reducible refine qqv (f := 16) rfl ?_); refine goesL_ (some 21) rfl rfl Tryd.func16 (by kernel_rfl) rfl #[.slice Ao31 y170.length co31, .slice Ao32 y173.length co32] rfl (by (try simp only [List.map_toArray, List.map_cons, List.map_nil]); first | done | rfl | (simp only [List.length_drop, List.length_take]; rfl)) ?_; (with_reducible refine (octets_PutAll.calls K _ _ y170 _ _ y173 t176 0 _ ?side1 ?side2 ?side3 ?side4 AP.out).mono ?_); (case side1 => repeat (first | exact (Kd.R_reads' HO172.out).2.2 | (with_reducible refine Kd.C_alloc ?_ _) | (with_reducible refine Kd.C_drewN ?_ _) | (with_reducible refine Kd.C_drew ?_))); (case side2 => exact (Kd.R_reads' HO172.out).2.1); (case side3 => repeat (first | exact (Kd.R_reads' HO175.out).2.2 | (with_reducible refine Kd.C_alloc ?_ _) | (with_reducible refine Kd.C_drewN ?_ _) | (with_reducible refine Kd.C_drew ?_))); (case side4 => exact (Kd.R_reads' HO175.out).2.1); rintro e w33 ⟨v178, rfl, ho0, hb⟩; refine ⟨_, rfl, ?_⟩; have n0_ := Aside0.mk (Kd.R_below (by (with_reducible repeat (first | apply Kd.R_alloc | apply Kd.R_drewN | apply Kd.R_drew)); exact HO172.out) hb); have n1_ := Aside0.mk (Kd.R_below (by (with_reducible repeat (first | apply Kd.R_alloc | apply Kd.R_drewN | apply Kd.R_drew)); exact HO175.out) hb); have n2_ := Aside0.mk (Kd.R_lower ho0 (qqk (by repeat (first | (with_reducible first | exact HB.out | apply qqg | apply qqa | apply qqf | refine qqh ?_ GE168.out) | exact HB.out)))); have n3_ := Aside0.mk (qqm (g := gb168) (o := .cells #[.int .i64 5, .int .i64 a0_1, .int .i64 a0_2, .int .i64 a0_3, .int .i64 a0_4, .int .i64 a0_5, .int .i64 a0_6, .int .i64 a0_7, .int .i64 a0_8, .int .i64 a0_9] 29 (0, 0)) (by (with_reducible repeat (first | refine qqc ?_ _ | refine qqe ?_ | refine qqd ?_ _)); exact BK168.out) hb); have n4_ := Aside0.mk (qqj (by repeat (first | (with_reducible first | exact HB.out | apply qqg | apply qqa | apply qqf | refine qqh ?_ GE168.out) | exact HB.out)) hb); clear HO172; clear HO175; clear BK168; clear HB; have HO172 := n0_; have HO175 := n1_; have HO179 := n2_; have BK168 := n3_; have HB := n4_; clear n0_ n1_ n2_ n3_ n4_; (try clear hb); (try clear hb2); (try clear hk); (try clear hi); (try clear ho0); obtain ⟨hcz34_0, hcz34_1, hcz34_2, hcz34_3, hcz34_4, hcz34_5, hcz34_6, hcz34_7, hcz34_8, hcz34_9⟩ := msg_Put.cells10 BK168.out; obtain ⟨hfz34_0, hfz34_1, hfz34_2, hfz34_3, hfz34_4, hfz34_5, hfz34_6, hfz34_7, hfz34_8, hfz34_9⟩ := msg_Put.frozen10 BK168.out; have hgl := (hG.below rfl HB.out).cell 29 (.bool false) rfl))
 go_ret2
 exact ⟨_, by first | rfl | (simp [qqo, qqn] <;> rfl) | (simp [*, qqo, qqn] <;> rfl), by (with_reducible repeat (first | apply Kd.R_alloc | apply Kd.R_drewN | apply Kd.R_drew)); exact HO179.out, by repeat (first | (with_reducible first | exact HB.out | apply qqg | apply qqa | apply qqf | refine qqh ?_ GE168.out) | exact HB.out)⟩
set_option maxHeartbeats 8000000 in
set_option maxRecDepth 100000 in
theorem msg_Put.calls (k : Nat) (a0_0 : Int) (a0_1 : Int) (a0_2 : Int) (a0_3 : Int) (a0_4 : Int) (a0_5 : Int) (a0_6 : Int) (a0_7 : Int) (a0_8 : Int) (a0_9 : Int) (r1 : List Int) (r2 : Int) (w : World) (hG : Glob w) (h : msg_Put.f k a0_0 a0_1 a0_2 a0_3 a0_4 a0_5 a0_6 a0_7 a0_8 a0_9 = some (r1, r2)) :
  Calls Tryd.prog 10 #[.agg #[.int .i64 a0_0, .int .i64 a0_1, .int .i64 a0_2, .int .i64 a0_3, .int .i64 a0_4, .int .i64 a0_5, .int .i64 a0_6, .int .i64 a0_7, .int .i64 a0_8, .int .i64 a0_9]] w fun e w' => ∃ v0_ : Value, e = .returned (.tuple #[v0_, .int .i64 r2]) ∧ Kd.R (Kd.int .u8) 5 w' w.heap.size (fun _ => True) v0_ r1 ∧ Below w.heap.size w w' := by
 unfold msg_Put.f at h
 obtain ⟨tm, hM, h5⟩ := Option.bind_eq_some_iff.mp h
 clear h
 by_cases c1 : tm = true
 ·rw [if_pos c1] at h5
  subst c1
  obtain ⟨⟨t176, t177⟩, hP, h6⟩ := Option.bind_eq_some_iff.mp h5
  clear h5
  have h : (if t177 = 0 then (if a0_0 = 2 then ((rule_Put.f k a0_4 a0_5 a0_6 a0_7 a0_8 a0_9).bind fun bt2 => (if t176.length + bt2.1.length < 140737488355328 then (some (t176 ++ bt2.1, bt2.2)) else (none))) else (some (t176, t177))) else (some (t176, t177))) = some (r1, r2) := h6
  clear h6
  by_cases c2 : t177 = 0
  ·rw [if_pos c2] at h
   subst c2
   by_cases c3 : a0_0 = 2
   ·rw [if_pos c3] at h
    subst c3
    obtain ⟨⟨t180, t183⟩, hR, h7⟩ := Option.bind_eq_some_iff.mp h
    clear h
    have h : (if t176.length + t180.length < 140737488355328 then (some (t176 ++ t180, t183)) else (none)) = some (r1, r2) := h7
    clear h7
    by_cases c4 : t176.length + t180.length < 140737488355328
    ·rw [if_pos c4] at h
     simp only [Option.some.injEq, Prod.mk.injEq] at h
     obtain ⟨rfl, rfl⟩ := h
     exact msg_Put.at2 k a0_1 a0_2 a0_3 a0_4 a0_5 a0_6 a0_7 a0_8 a0_9 w hG hM t176 hP t180 t183 hR c4
    ·rw [if_neg c4] at h
     exact absurd h (by simp)
   ·rw [if_neg c3] at h
    simp only [Option.some.injEq, Prod.mk.injEq] at h
    obtain ⟨rfl, rfl⟩ := h
    have hk : a0_0 = 0 ∨ a0_0 = 1 ∨ a0_0 = 3 ∨ a0_0 = 4 ∨ a0_0 = 5 := by
     have hM' := hM
     unfold msg_May.f at hM'
     by_cases d1 : a0_0 < 0
     ·rw [if_pos d1] at hM'; exact absurd hM' (by decide)
     ·by_cases d2 : a0_0 ≥ 6
      ·rw [if_neg d1, if_pos d2] at hM'; exact absurd hM' (by decide)
      ·omega
    rcases hk with rfl | rfl | rfl | rfl | rfl
    ·exact msg_Put.at0 k a0_1 a0_2 a0_3 a0_4 a0_5 a0_6 a0_7 a0_8 a0_9 w hG hM t176 hP
    ·exact msg_Put.at1 k a0_1 a0_2 a0_3 a0_4 a0_5 a0_6 a0_7 a0_8 a0_9 w hG hM t176 hP
    ·exact msg_Put.at3 k a0_1 a0_2 a0_3 a0_4 a0_5 a0_6 a0_7 a0_8 a0_9 w hG hM t176 hP
    ·exact msg_Put.at4 k a0_1 a0_2 a0_3 a0_4 a0_5 a0_6 a0_7 a0_8 a0_9 w hG hM t176 hP
    ·exact msg_Put.at5 k a0_1 a0_2 a0_3 a0_4 a0_5 a0_6 a0_7 a0_8 a0_9 w hG hM t176 hP
  ·rw [if_neg c2] at h
   simp only [Option.some.injEq, Prod.mk.injEq] at h
   obtain ⟨rfl, rfl⟩ := h
   exact msg_Put.bad k a0_0 a0_1 a0_2 a0_3 a0_4 a0_5 a0_6 a0_7 a0_8 a0_9 w hG hM t176 t177 hP c2
 ·rw [if_neg c1] at h5
  have h := h5
  clear h5
  have c1' : tm = false := by simpa using c1
  subst c1'
  simp only [Option.some.injEq, Prod.mk.injEq] at h
  obtain ⟨rfl, rfl⟩ := h
  exact msg_Put.no k a0_0 a0_1 a0_2 a0_3 a0_4 a0_5 a0_6 a0_7 a0_8 a0_9 w hG hM
def wayfinderlaw05_awake.f (k : Nat)  : Option (Bool) := (msg_Put.f k 0 3 0 0 0 0 0 0 0 0).bind fun bt134 => (if bt134.2 = 0 then (some ((strOfNums bt134.1).toList == ([0, 0, 0, 3, 0, 0, 0, 0, 0] : List UInt8))) else (some false))
theorem wayfinderlaw05_awake.mono : ∀ k, LeO (wayfinderlaw05_awake.f k ) (wayfinderlaw05_awake.f (k + 1) ) := by
 intro  k
 unfold wayfinderlaw05_awake.f
 repeat' first
   | (with_reducible exact msg_Put.mono _ _ _ _ _ _ _ _ _ _ _)
   | (with_reducible exact LeO.refl _)
   | (with_reducible exact LeO.none _)
   | (with_reducible refine LeO.ite ?_ ?_)
   | (with_reducible refine LeO.bind ?_ (fun _ => ?_))
   | exact msg_Put.mono _ _ _ _ _ _ _ _ _ _ _
   | exact LeO.none _
   | refine LeO.ite ?_ ?_
   | refine LeO.bind ?_ (fun _ => ?_)
set_option maxHeartbeats 8000000 in
set_option maxRecDepth 100000 in
theorem wayfinderlaw05_awake.calls (k : Nat)  (r : Bool) (w : World) (hG : Glob w) (h : wayfinderlaw05_awake.f k  = some r) :
  Calls Tryd.prog 9 #[] w fun e w' => e = .returned (.bool r) ∧ Below w.heap.size w w' := by
 have hu29 := Tryd.underlying29
 have HB := Aside0.mk (Below.refl w.heap.size w)
 have H : ((msg_Put.f k 0 3 0 0 0 0 0 0 0 0).bind fun bt134 => (if bt134.2 = 0 then (some ((strOfNums bt134.1).toList == ([0, 0, 0, 3, 0, 0, 0, 0, 0] : List UInt8))) else (some false))) = some r := h
 clear h
 replace H := Option.bind_eq_some_iff.mp H
 obtain ⟨⟨t134, t137⟩, A10, H⟩ := H
 replace H : (if t137 = 0 then (some ((strOfNums t134).toList == ([0, 0, 0, 3, 0, 0, 0, 0, 0] : List UInt8))) else (some false)) = some r := H
 have A1 := Aside0.mk A10
 clear A10
 by_cases c2 : t137 = 0
 ·rw [if_pos c2] at H
  have c2b0 : (t137 == 0) = true := beq_iff_eq.mpr c2
  have c2b1 : (t137 != 0) = false := bne_eq_false_iff_eq.mpr c2
  clear c2
  obtain rfl := Option.some.inj H
  go_enter Tryd.func9, Tryd.ntmps9
  go_wp2_with (first | ((with_reducible refine qqv (f := 10) rfl ?_); refine goesL_ (some 5) rfl rfl Tryd.func10 (by kernel_rfl) rfl #[.agg #[.int .i64 0, .int .i64 3, .int .i64 0, .int .i64 0, .int .i64 0, .int .i64 0, .int .i64 0, .int .i64 0, .int .i64 0, .int .i64 0]] rfl (by (try simp only [List.map_toArray, List.map_cons, List.map_nil]); first | done | rfl | (simp only [List.length_drop, List.length_take]; rfl)) ?_; (with_reducible refine (msg_Put.calls k 0 3 0 0 0 0 0 0 0 0 t134 t137 _ ?sideG_ A1.out).mono ?_); (case sideG_ => exact hG.below rfl (by repeat (first | (with_reducible first | exact HB.out | apply qqg | apply qqa | apply qqf) | exact HB.out))); rintro e w3 ⟨v135, rfl, ho0, hb⟩; refine ⟨_, rfl, ?_⟩; have n0_ := Aside0.mk (Kd.R_lower ho0 (qqk (by repeat (first | (with_reducible first | exact HB.out | apply qqg | apply qqa | apply qqf) | exact HB.out)))); have n1_ := Aside0.mk (qqj (by repeat (first | (with_reducible first | exact HB.out | apply qqg | apply qqa | apply qqf) | exact HB.out)) hb); clear HB; have HO136 := n0_; have HB := n1_; clear n0_ n1_; (try clear hb); (try clear hb2); (try clear hk); (try clear hi); (try clear ho0); have hcv4 := own_string (P := Tryd.prog) Tryd.underlying31 Tryd.underlying5 Tryd.underlying9 (Kd.own_of_R HO136.out); have hcv5 := fun (n_ : Nat) => own_string (P := Tryd.prog) Tryd.underlying31 Tryd.underlying5 Tryd.underlying9 (Kd.own_of_R (Kd.R_drewN HO136.out n_))))
  go_ret
  exact ⟨by first | rfl | (simp [qqo, qqn] <;> rfl) | (simp [*, qqo, qqn] <;> rfl), by repeat (first | (with_reducible first | exact HB.out | apply qqg | apply qqa | apply qqf) | exact HB.out)⟩
 ·rw [if_neg c2] at H
  have c2b0 : (t137 == 0) = false := beq_eq_false_iff_ne.mpr c2
  have c2b1 : (t137 != 0) = true := bne_iff_ne.mpr c2
  obtain rfl := Option.some.inj H
  go_enter Tryd.func9, Tryd.ntmps9
  go_wp2_with (first | ((with_reducible refine qqv (f := 10) rfl ?_); refine goesL_ (some 5) rfl rfl Tryd.func10 (by kernel_rfl) rfl #[.agg #[.int .i64 0, .int .i64 3, .int .i64 0, .int .i64 0, .int .i64 0, .int .i64 0, .int .i64 0, .int .i64 0, .int .i64 0, .int .i64 0]] rfl (by (try simp only [List.map_toArray, List.map_cons, List.map_nil]); first | done | rfl | (simp only [List.length_drop, List.length_take]; rfl)) ?_; (with_reducible refine (msg_Put.calls k 0 3 0 0 0 0 0 0 0 0 t134 t137 _ ?sideG_ A1.out).mono ?_); (case sideG_ => exact hG.below rfl (by repeat (first | (with_reducible first | exact HB.out | apply qqg | apply qqa | apply qqf) | exact HB.out))); rintro e w6 ⟨v135, rfl, ho0, hb⟩; refine ⟨_, rfl, ?_⟩; have n0_ := Aside0.mk (Kd.R_lower ho0 (qqk (by repeat (first | (with_reducible first | exact HB.out | apply qqg | apply qqa | apply qqf) | exact HB.out)))); have n1_ := Aside0.mk (qqj (by repeat (first | (with_reducible first | exact HB.out | apply qqg | apply qqa | apply qqf) | exact HB.out)) hb); clear HB; have HO136 := n0_; have HB := n1_; clear n0_ n1_; (try clear hb); (try clear hb2); (try clear hk); (try clear hi); (try clear ho0)))
  go_ret
  exact ⟨by first | rfl | (simp [qqo, qqn] <;> rfl) | (simp [*, qqo, qqn] <;> rfl), by repeat (first | (with_reducible first | exact HB.out | apply qqg | apply qqa | apply qqf) | exact HB.out)⟩
mutual
def wayfinderref01_Bit.j0 : Nat → Int → Int → Bool → Option (Int)
 | 0, _, _, _ => none
 | k + 1, x0, x1, x12 => if x12 = true then (some 0) else (wayfinderref01_Bit.l0 k x1 (Go.bits .and .i64 x0 4294967295) 31)
def wayfinderref01_Bit.l0 : Nat → Int → Int → Int → Option (Int)
 | 0, _, _, _ => none
 | k + 1, x1, x5, x6 => if x6 > x1 then (wayfinderref01_Bit.l0 k x1 (wrap64 (Int.tdiv x5 2)) (wrap64 (x6 - 1))) else (some (Int.tmod x5 2))
end
def wayfinderref01_Bit.f (k : Nat) (a0 : Int) (a1 : Int) : Option (Int) := if a1 < 0 then (wayfinderref01_Bit.j0 k a0 a1 true) else (wayfinderref01_Bit.j0 k a0 a1 (decide (a1 > 31)))
theorem wayfinderref01_Bit.mono_l : ∀ k, (∀ y0 y1 y2, LeO (wayfinderref01_Bit.j0 k y0 y1 y2) (wayfinderref01_Bit.j0 (k + 1) y0 y1 y2)) ∧ (∀ y0 y1 y2, LeO (wayfinderref01_Bit.l0 k y0 y1 y2) (wayfinderref01_Bit.l0 (k + 1) y0 y1 y2))
 | 0 => ⟨fun _ _ _ r h => by simp [wayfinderref01_Bit.j0] at h, fun _ _ _ r h => by simp [wayfinderref01_Bit.l0] at h⟩
 | k + 1 => by
  obtain ⟨ih0, ih1⟩ := wayfinderref01_Bit.mono_l k
  refine ⟨?_, ?_⟩
  ·intro y0 y1 y2
   unfold wayfinderref01_Bit.j0
   repeat' first
   | (with_reducible exact ih0 _ _ _)
   | (with_reducible exact ih1 _ _ _)
   | (with_reducible exact LeO.refl _)
   | (with_reducible exact LeO.none _)
   | (with_reducible refine LeO.ite ?_ ?_)
   | (with_reducible refine LeO.bind ?_ (fun _ => ?_))
   | exact ih0 _ _ _
   | exact ih1 _ _ _
   | exact LeO.none _
   | refine LeO.ite ?_ ?_
   | refine LeO.bind ?_ (fun _ => ?_)
  ·intro y0 y1 y2
   unfold wayfinderref01_Bit.l0
   repeat' first
   | (with_reducible exact ih0 _ _ _)
   | (with_reducible exact ih1 _ _ _)
   | (with_reducible exact LeO.refl _)
   | (with_reducible exact LeO.none _)
   | (with_reducible refine LeO.ite ?_ ?_)
   | (with_reducible refine LeO.bind ?_ (fun _ => ?_))
   | exact ih0 _ _ _
   | exact ih1 _ _ _
   | exact LeO.none _
   | refine LeO.ite ?_ ?_
   | refine LeO.bind ?_ (fun _ => ?_)
theorem wayfinderref01_Bit.mono : ∀ a0 a1 k, LeO (wayfinderref01_Bit.f k a0 a1) (wayfinderref01_Bit.f (k + 1) a0 a1) := by
 intro a0 a1 k
 obtain ⟨ih0, ih1⟩ := wayfinderref01_Bit.mono_l k
 unfold wayfinderref01_Bit.f
 repeat' first
   | (with_reducible exact ih0 _ _ _)
   | (with_reducible exact ih1 _ _ _)
   | (with_reducible exact LeO.refl _)
   | (with_reducible exact LeO.none _)
   | (with_reducible refine LeO.ite ?_ ?_)
   | (with_reducible refine LeO.bind ?_ (fun _ => ?_))
   | exact ih0 _ _ _
   | exact ih1 _ _ _
   | exact LeO.none _
   | refine LeO.ite ?_ ?_
   | refine LeO.bind ?_ (fun _ => ?_)
set_option maxHeartbeats 8000000 in
set_option maxRecDepth 100000 in
theorem wayfinderref01_Bit.calls (k : Nat) (a0 : Int) (a1 : Int) (r : Int) (w : World) (h : wayfinderref01_Bit.f k a0 a1 = some r) :
  Calls Tryd.prog 35 #[.int .i64 a0, .int .i64 a1] w fun e w' => e = .returned (.int .i64 r) ∧ Drawn0 w w' := by
 have H : (if a1 < 0 then (wayfinderref01_Bit.j0 k a0 a1 true) else (wayfinderref01_Bit.j0 k a0 a1 (decide (a1 > 31)))) = some r := h
 clear h
 have HC3 := Aside0.mk H
 clear H
 go_enter Tryd.func35, Tryd.ntmps35
 go_upto_region 1 with (fail)
 go_cut [12] (fun v12 wc => ∃ (kq : Nat) (x12_2 : Bool), v12 = .bool x12_2 ∧ Aside0 (wayfinderref01_Bit.j0 kq a0 a1 x12_2 = some r) ∧ Aside0 (kq ≤ k) ∧ Drawn0 w wc)
 case first =>
  have H := HC3.out
  clear HC3
  by_cases c4 : a1 < 0
  ·rw [if_pos c4] at H
   have c4b0 : decide (a1 < 0) = true := decide_eq_true c4
   clear c4
   (first | rw [c4b0] | (simp only [qqt, qqu]; rw [c4b0]) | skip)
   have H' := Aside0.mk H
   clear H
   go_wp2
   go_meet
   case rel => exact ⟨_, (true), (by first | rfl | (simp; done) | (simp [*]; done)), H', ⟨by first | omega | exact Nat.le_refl _⟩, by repeat (first | exact Drawn0.refl _ | apply Drawn0.step)⟩
  ·rw [if_neg c4] at H
   have c4b0 : decide (a1 < 0) = false := decide_eq_false c4
   clear c4
   (first | rw [c4b0] | (simp only [qqt, qqu]; rw [c4b0]) | skip)
   have H' := Aside0.mk H
   clear H
   go_wp2
   go_meet
   case rel => exact ⟨_, (decide (a1 > 31)), (by first | rfl | (simp; done) | (simp [*]; done)), H', ⟨by first | omega | exact Nat.le_refl _⟩, by repeat (first | exact Drawn0.refl _ | apply Drawn0.step)⟩
 case rest =>
  clear HC3
  try clear p2
  try clear c3
  try clear c4
  try clear c4b0
  obtain ⟨kq, x12_2, rfl, HA, HJ2, ⟨mc2, rfl⟩⟩ := hcut
  cases kq with
  | zero => exact absurd HA.out (by simp [wayfinderref01_Bit.j0])
  | succ kj2 =>
   have H := HA.out
   clear HA
   simp only [wayfinderref01_Bit.j0] at H
   by_cases c5 : x12_2 = true
   ·subst c5
    have H1 : (some 0) = some r := by rw [if_pos rfl] at H; exact H
    clear H
    have H := H1
    clear H1
    obtain rfl := Option.some.inj H
    go_wp2
    go_ret
    exact ⟨by first | rfl | (simp; done) | (simp [*]; done), by repeat (first | exact Drawn0.refl _ | apply Drawn0.step)⟩
   ·replace c5 := Bool.eq_false_iff.mpr c5
    subst c5
    have H1 : (wayfinderref01_Bit.l0 kj2 a1 (Go.bits .and .i64 a0 4294967295) 31) = some r := by rw [if_neg (show ¬ (false = true) by decide)] at H; exact H
    clear H
    have H := H1
    clear H1
    have H' := Aside0.mk H
    clear H
    go_wp2
    go_loopg [5, 6] kj2 (fun kq v5 v6 w' => ∃ (x5_2 : Int) (x6_2 : Int), v5 = .int .i64 x5_2 ∧ v6 = .int .i64 x6_2 ∧ Aside0 (wayfinderref01_Bit.l0 kq a1 x5_2 x6_2 = some r) ∧ Aside0 (kq ≤ kj2) ∧ Drawn0 w w')
    case atStart => exact ⟨(Go.bits .and .i64 a0 4294967295), (31), (by first | rfl | (simp; done) | (simp [*]; done)), (by first | rfl | (simp; done) | (simp [*]; done)), H', ⟨Nat.le_refl _⟩, by repeat (first | exact Drawn0.refl _ | apply Drawn0.step)⟩
    case round =>
     clear H'
     try clear c2
     try clear p2
     try clear c3
     try clear c4
     try clear c4b0
     try clear c5
     try clear p2
     obtain ⟨x5_2, x6_2, rfl, rfl, HA, HK2, ⟨m2, rfl⟩⟩ := hrel
     cases gk with
     | zero => exact absurd HA.out (by simp [wayfinderref01_Bit.l0])
     | succ k2 =>
      have H := HA.out
      clear HA
      simp only [wayfinderref01_Bit.l0] at H
      by_cases c6 : x6_2 > a1
      ·rw [if_pos c6] at H
       have c6b0 : decide (a1 < x6_2) = true := decide_eq_true c6
       clear c6
       have H' := Aside0.mk H
       clear H
       go_wp2
       go_roundg k2
       case measure => have := HJ2.out; have := HK2.out; omega
       case rel => exact ⟨(wrap64 (Int.tdiv x5_2 2)), (wrap64 (x6_2 - 1)), (by first | rfl | (simp; done) | (simp [*]; done)), (by first | rfl | (simp; done) | (simp [*]; done)), H', ⟨by have := HJ2.out; have := HK2.out; omega⟩, by repeat (first | exact Drawn0.refl _ | apply Drawn0.step)⟩
      ·rw [if_neg c6] at H
       have c6b0 : decide (a1 < x6_2) = false := decide_eq_false c6
       clear c6
       obtain rfl := Option.some.inj H
       go_wp2
       go_ret
       exact ⟨by first | rfl | (simp; done) | (simp [*]; done), by repeat (first | exact Drawn0.refl _ | apply Drawn0.step)⟩
end Go.Proofs.YtdmajldpebooeaaDoor.All
