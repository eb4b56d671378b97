/- Contracts of Go functions that this seat comes to, each with a plain function that tells its answers; conditions: those that each contract names. Written by a program of this session (wip/print) over the print words. -/
import Derived.Test.YtpaoofkahhhjaaaDoorQ5Allx0
import Derived.Test.YtpaoofkahhhjaaaDoorQ5Allx6
namespace Go.Proofs.YtpaoofkahhhjaaaDoor.All
open Go.RowKit Go.Proofs.YtpaoofkahhhjaaaDoorW.PrintWords Go.Proofs.YtpaoofkahhhjaaaDoorW.PrintLast Go.Proofs.YtpaoofkahhhjaaaDoorW.PrintMore
attribute [local go_sem] max2_int min2_int max_two min_two max_three min_three max_four min_four
set_option linter.unusedVariables false
set_option linter.unusedSimpArgs false
def octets_PutAll.l0 : Nat → List Int → List Int → List Int → Int → Int → Option (List Int × Int)
 | 0, _, _, _, _, _ => none
 | k + 1, x1, x6, x16, x17, x18 => if x18 < x17 then (if 0 ≤ x18 then (if x18 < (x16.length : Int) then (if x18 < (x1.length : Int) then ((octets_Put.f k (rd x16 x18) (rd x1 x18)).bind fun bt115 => (if bt115.2 = 0 then (if x6.length + bt115.1.length < 140737488355328 then (octets_PutAll.l0 k x1 (x6 ++ bt115.1) x16 x17 (wrap64 (x18 + 1))) else (none)) else (some (([] : List Int), bt115.2)))) else (none)) else (none)) else (none)) else (some (x6, 0))
def octets_PutAll.f (k : Nat) (l0 : List Int) (l1 : List Int) : Option (List Int × Int) := if (l0.length : Int) = (l1.length : Int) then (octets_PutAll.l0 k l1 ([] : List Int) l0 (l0.length : Int) 0) else (some (([] : List Int), 1))
theorem octets_PutAll.mono_l : ∀ k, (∀ y0 y1 y2 y3 y4, LeO (octets_PutAll.l0 k y0 y1 y2 y3 y4) (octets_PutAll.l0 (k + 1) y0 y1 y2 y3 y4))
 | 0 => fun _ _ _ _ _ r h => by simp [octets_PutAll.l0] at h
 | k + 1 => by
  have ih0 := octets_PutAll.mono_l k
  ·intro y0 y1 y2 y3 y4
   unfold octets_PutAll.l0
   repeat' first
   | (with_reducible exact ih0 _ _ _ _ _)
   | (with_reducible exact octets_Put.mono _ _ _)
   | (with_reducible exact LeO.refl _)
   | (with_reducible exact LeO.none _)
   | (with_reducible refine LeO.ite ?_ ?_)
   | (with_reducible refine LeO.bind ?_ (fun _ => ?_))
   | exact ih0 _ _ _ _ _
   | exact octets_Put.mono _ _ _
   | exact LeO.none _
   | refine LeO.ite ?_ ?_
   | refine LeO.bind ?_ (fun _ => ?_)
theorem octets_PutAll.mono : ∀ a0 a1 k, LeO (octets_PutAll.f k a0 a1) (octets_PutAll.f (k + 1) a0 a1) := by
 intro a0 a1 k
 have ih0 := octets_PutAll.mono_l k
 unfold octets_PutAll.f
 repeat' first
   | (with_reducible exact ih0 _ _ _ _ _)
   | (with_reducible exact octets_Put.mono _ _ _)
   | (with_reducible exact LeO.refl _)
   | (with_reducible exact LeO.none _)
   | (with_reducible refine LeO.ite ?_ ?_)
   | (with_reducible refine LeO.bind ?_ (fun _ => ?_))
   | exact ih0 _ _ _ _ _
   | exact octets_Put.mono _ _ _
   | exact LeO.none _
   | refine LeO.ite ?_ ?_
   | refine LeO.bind ?_ (fun _ => ?_)
set_option maxHeartbeats 8000000 in
set_option maxRecDepth 100000 in
theorem octets_PutAll.calls (k : Nat) (A0 : Option Addr) (c0 : Nat) (l0 : List Int) (A1 : Option Addr) (c1 : Nat) (l1 : List Int) (r1 : List Int) (r2 : Int) (w : World) (hr0 : Kd.C (Kd.int .i64) w A0 l0.length l0) (hc0 : l0.length ≤ c0) (hr1 : Kd.C (Kd.int .i64) w A1 l1.length l1) (hc1 : l1.length ≤ c1) (h : octets_PutAll.f k l0 l1 = some (r1, r2)) :
  Calls Tryd.prog 30 #[.slice A0 l0.length c0, .slice A1 l1.length c1] w fun e w' => ∃ v0_ : Value, e = .returned (.tuple #[v0_, .int .i64 r2]) ∧ Kd.R (Kd.int .u8) 5 w' w.heap.size (fun _ => True) v0_ r1 ∧ Below w.heap.size w w' := by
 have HR0 := Aside0.mk hr0
 have HC0 := Aside0.mk hc0
 clear hr0 hc0
 have HR1 := Aside0.mk hr1
 have HC1 := Aside0.mk hc1
 clear hr1 hc1
 have HB := Aside0.mk (Below.refl w.heap.size w)
 have H : (if (l0.length : Int) = (l1.length : Int) then (octets_PutAll.l0 k l1 ([] : List Int) l0 (l0.length : Int) 0) else (some (([] : List Int), 1))) = some (r1, r2) := h
 clear h
 by_cases c3 : (l0.length : Int) = (l1.length : Int)
 ·rw [if_pos c3] at H
  have c3b0 : ((l0.length : Int) == (l1.length : Int)) = true := beq_iff_eq.mpr c3
  have c3b1 : ((l0.length : Int) != (l1.length : Int)) = false := bne_eq_false_iff_eq.mpr c3
  have c3b2 : (l0.length == l1.length) = true := by first | simpa using c3 | (simp at c3 ⊢; omega)
  clear c3
  have H' := Aside0.mk H
  clear H
  go_enter Tryd.func30, Tryd.ntmps30
  go_wp2
  go_loopg [6, 18] k (fun kq v6 v18 w' => ∃ (x6_1 : List Int) (Q5 : Int), v18 = .int .i64 Q5 ∧ Aside0 (octets_PutAll.l0 kq l1 x6_1 l0 (l0.length : Int) Q5 = some (r1, r2)) ∧ Aside0 (kq ≤ k) ∧ Aside0 (Kd.R (Kd.int .u8) 5 w' w.heap.size (fun _ => True) v6 x6_1) ∧ Aside0 (Below w.heap.size w w'))
  case atStart => exact ⟨(([] : List Int)), (0), (by first | rfl | (simp; done) | (simp [*]; done)), H', ⟨Nat.le_refl _⟩, ⟨by first | exact Kd.R_nil _ _ _ _ _ | exact Kd.N_nil _ _ _ _ _ | exact Kd.V_nil _ _ _ _ _ | exact Kd.Q_nil _ _ _ _ _ | exact Kd.S_nil _ _ _ _ _⟩, ⟨by repeat (first | (with_reducible first | exact HB.out | apply qqc | apply qqa | apply qqb) | exact HB.out)⟩⟩
  case round =>
   clear H'
   try clear c1
   try clear p2
   try clear c3
   try clear c3b0
   try clear c3b1
   try clear c3b2
   obtain ⟨x6_1, Q5, rfl, HA, HK1, HO_6, HB⟩ := hrel
   cases gk with
   | zero => exact absurd HA.out (by simp [octets_PutAll.l0])
   | succ k1 =>
    have H := HA.out
    clear HA
    simp only [octets_PutAll.l0] at H
    by_cases c4 : Q5 < (l0.length : Int)
    ·rw [if_pos c4] at H
     have c4b0 : decide (Q5 < (l0.length : Int)) = true := decide_eq_true c4
     clear c4
     by_cases c5 : 0 ≤ Q5
     ·rw [if_pos c5] at H
      have c5b0 : decide (0 ≤ Q5) = true := decide_eq_true c5
      clear c5
      by_cases c6 : Q5 < (l0.length : Int)
      ·rw [if_pos c6] at H
       have c6b0 : decide (Q5 < (l0.length : Int)) = true := decide_eq_true c6
       clear c6
       by_cases c7 : Q5 < (l1.length : Int)
       ·rw [if_pos c7] at H
        have c7b0 : decide (Q5 < (l1.length : Int)) = true := decide_eq_true c7
        clear c7
        replace H := Option.bind_eq_some_iff.mp H
        obtain ⟨⟨t115, t116⟩, A80, H⟩ := H
        replace H : (if t116 = 0 then (if x6_1.length + t115.length < 140737488355328 then (octets_PutAll.l0 k1 l1 (x6_1 ++ t115) l0 (l0.length : Int) (wrap64 (Q5 + 1))) else (none)) else (some (([] : List Int), t116))) = some (r1, r2) := H
        have A8 := Aside0.mk A80
        clear A80
        by_cases c9 : t116 = 0
        ·rw [if_pos c9] at H
         have c9b0 : (t116 == 0) = true := beq_iff_eq.mpr c9
         have c9b1 : (t116 != 0) = false := bne_eq_false_iff_eq.mpr c9
         clear c9
         by_cases c10 : x6_1.length + t115.length < 140737488355328
         ·rw [if_pos c10] at H
          have LMc10 := Aside0.mk c10
          clear c10
          obtain ⟨y119, hy119⟩ : ∃ y_ : List Int, y_ = (x6_1 ++ t115) := ⟨_, rfl⟩
          replace H : (octets_PutAll.l0 k1 l1 y119 l0 (l0.length : Int) (wrap64 (Q5 + 1))) = some (r1, r2) := by first | (rw [hy119]; with_reducible exact H) | (have H2_ := (Option.bind_some _ _).symm.trans H; rw [hy119]; with_reducible exact H2_) | (have H2_ := (Option.bind_some _ _).symm.trans H; with_reducible exact H2_) | with_reducible exact H | (rw [hy119]; exact H) | exact H
          have Ny119 := Aside0.mk hy119
          clear hy119
          have H' := Aside0.mk H
          clear H
          have p113 : 0 ≤ (Q5 : Int) := of_decide_eq_true (by first | (with_reducible assumption) | assumption)
          have q113 : Q5 < (l0.length : Int) := of_decide_eq_true (by first | (with_reducible assumption) | assumption)
          obtain ⟨ad113, e113, Qn⟩ := Kd.at_int HR0.out Q5 p113 q113
          cases e113
          replace Qn := (HB.out.cell (World.block_lt_of_cell? w _ Qn)).trans Qn
          replace p113 := eq_true p113
          replace q113 := eq_true q113
          have p114 : 0 ≤ (Q5 : Int) := of_decide_eq_true (by first | (with_reducible assumption) | assumption)
          have q114 : Q5 < (l1.length : Int) := of_decide_eq_true (by first | (with_reducible assumption) | assumption)
          obtain ⟨ad114, e114, Qo⟩ := Kd.at_int HR1.out Q5 p114 q114
          cases e114
          replace Qo := (HB.out.cell (World.block_lt_of_cell? w _ Qo)).trans Qo
          replace p114 := eq_true p114
          replace q114 := eq_true q114
          go_wp2_with (first | ((with_reducible refine qqr (f := 42) rfl ?_); refine goesL_ (some 29) rfl rfl Tryd.func42 (by kernel_rfl) rfl #[.int .i64 (rd l0 Q5), .int .i64 (rd l1 Q5)] rfl (by (try simp only [List.map_toArray, List.map_cons, List.map_nil]); first | done | rfl | (simp only [List.length_drop, List.length_take]; rfl)) ?_; (with_reducible refine (octets_Put.calls k1 (rd l0 Q5) (rd l1 Q5) t115 t116 _ A8.out).mono ?_); rintro e w11 ⟨v117, rfl, ho0, hb⟩; refine ⟨_, rfl, ?_⟩; have n0_ := Aside0.mk (Kd.R_elder' (by (with_reducible repeat (first | apply Kd.R_alloc | apply Kd.R_drewN | apply Kd.R_drew)); exact HO_6.out) (Kd.R_base ho0) hb); have n1_ := Aside0.mk (Kd.R_lower (Kd.R_new' ho0 (Kd.R_lt (by (with_reducible repeat (first | apply Kd.R_alloc | apply Kd.R_drewN | apply Kd.R_drew)); exact HO_6.out))) (qqu (by repeat (first | (with_reducible first | exact HB.out | apply qqc | apply qqa | apply qqb) | exact HB.out)))); have n2_ := bst HB hb; clear HO_6; clear HB; have HO_6 := n0_; have Yj := n1_; have HB := n2_; clear n0_ n1_ n2_; (try clear hb); (try clear hk); (try clear ho0); obtain ⟨Ao13, co13, eo13⟩ := Kd.R_slice Yj.out; subst eo13) | ((with_reducible refine gate_builtin (b := .append) (xs := #[.tmp 35, .tmp 36]) rfl ?_); at_builtin; refine Kd.R_append_rows (Kd.int .u8) (w0 := w) w.heap.size rfl (.tmp 35) (.tmp 36) 31 5 (.int .u8 0) 1 rfl Tryd.underlying31 info5 rfl (by decide) (by omega) u6 x6_1 t115 _ _ _ (fun k_ => some k_ ≠ (.slice Ao13 t115.length co13 : Value).ownBlock) (fun _ => False) rfl rfl ?aO ?aR (fun _ _ h => h) (fun _ h => h.elim) ?aF ?aB ?aS ?aL ?_; (case aR => repeat (first | exact (Kd.R_reads' Yj.out).2.2 | (with_reducible refine Kd.C_alloc ?_ _) | (with_reducible refine Kd.C_drewN ?_ _) | (with_reducible refine Kd.C_drew ?_))); (case aB => exact (by repeat (first | (with_reducible first | exact HB.out | apply qqc | apply qqa | apply qqb) | exact HB.out))); (case aF => exact (fun k_ hk => Kd.fresh' (Kd.R_lt (by (with_reducible repeat (first | apply Kd.R_alloc | apply Kd.R_drewN | apply Kd.R_drew)); exact Yj.out)) k_ hk)); (case aO => exact (by (with_reducible repeat (first | apply Kd.R_alloc | apply Kd.R_drewN | apply Kd.R_drew)); exact Kd.R_mono HO_6.out (fun _ hk => hk.2))); (case aS => exact (qqu (by repeat (first | (with_reducible first | exact HB.out | apply qqc | apply qqa | apply qqb) | exact HB.out)))); (case aL => have := LMc10.out; omega); intro v120 w12 ho hb hg hat; rw [← Ny119.out] at ho; have n0_ := Aside0.mk (Kd.R_after (ok := (fun _ => True)) (by (with_reducible repeat (first | apply Kd.R_alloc | apply Kd.R_drewN | apply Kd.R_drew)); exact Yj.out) hg hat); have n1_ := Aside0.mk (hb); have n2_ := Aside0.mk (ho); clear Yj; clear HB; clear HO_6; have Yj := n0_; have HB := n1_; have HO121 := n2_; clear n0_ n1_ n2_; clear ho hb hg hat))
          go_roundg k1
          case measure => have := HK1.out; omega
          case rel => exact ⟨(y119), (wrap64 (Q5 + 1)), (by first | rfl | (simp; done) | (simp [*]; done)), H', ⟨by have := HK1.out; omega⟩, ⟨by (with_reducible repeat (first | apply Kd.R_alloc | apply Kd.R_drewN | apply Kd.R_drew)); exact Kd.R_mono HO121.out (fun _ hk => trivial)⟩, ⟨by repeat (first | (with_reducible first | exact HB.out | apply qqc | apply qqa | apply qqb) | exact HB.out)⟩⟩
         ·rw [if_neg c10] at H
          exact absurd H (by simp)
        ·rw [if_neg c9] at H
         have c9b0 : (t116 == 0) = false := beq_eq_false_iff_ne.mpr c9
         have c9b1 : (t116 != 0) = true := bne_iff_ne.mpr c9
         simp only [Option.some.injEq, Prod.mk.injEq] at H
         obtain ⟨rfl, rfl⟩ := H
         have p113 : 0 ≤ (Q5 : Int) := of_decide_eq_true (by first | (with_reducible assumption) | assumption)
         have q113 : Q5 < (l0.length : Int) := of_decide_eq_true (by first | (with_reducible assumption) | assumption)
         obtain ⟨ad113, e113, Qn⟩ := Kd.at_int HR0.out Q5 p113 q113
         cases e113
         replace Qn := (HB.out.cell (World.block_lt_of_cell? w _ Qn)).trans Qn
         replace p113 := eq_true p113
         replace q113 := eq_true q113
         have p114 : 0 ≤ (Q5 : Int) := of_decide_eq_true (by first | (with_reducible assumption) | assumption)
         have q114 : Q5 < (l1.length : Int) := of_decide_eq_true (by first | (with_reducible assumption) | assumption)
         obtain ⟨ad114, e114, Qo⟩ := Kd.at_int HR1.out Q5 p114 q114
         cases e114
         replace Qo := (HB.out.cell (World.block_lt_of_cell? w _ Qo)).trans Qo
         replace p114 := eq_true p114
         replace q114 := eq_true q114
         go_wp2_with (first | ((with_reducible refine qqr (f := 42) rfl ?_); refine goesL_ (some 29) rfl rfl Tryd.func42 (by kernel_rfl) rfl #[.int .i64 (rd l0 Q5), .int .i64 (rd l1 Q5)] rfl (by (try simp only [List.map_toArray, List.map_cons, List.map_nil]); first | done | rfl | (simp only [List.length_drop, List.length_take]; rfl)) ?_; (with_reducible refine (octets_Put.calls k1 (rd l0 Q5) (rd l1 Q5) t115 t116 _ A8.out).mono ?_); rintro e w14 ⟨v117, rfl, ho0, hb⟩; refine ⟨_, rfl, ?_⟩; have n0_ := Aside0.mk (Kd.R_elder' (by (with_reducible repeat (first | apply Kd.R_alloc | apply Kd.R_drewN | apply Kd.R_drew)); exact HO_6.out) (Kd.R_base ho0) hb); have n1_ := Aside0.mk (Kd.R_lower (Kd.R_new' ho0 (Kd.R_lt (by (with_reducible repeat (first | apply Kd.R_alloc | apply Kd.R_drewN | apply Kd.R_drew)); exact HO_6.out))) (qqu (by repeat (first | (with_reducible first | exact HB.out | apply qqc | apply qqa | apply qqb) | exact HB.out)))); have n2_ := bst HB hb; clear HO_6; clear HB; have HO_6 := n0_; have Yj := n1_; have HB := n2_; clear n0_ n1_ n2_; (try clear hb); (try clear ho0)))
         go_ret2
         exact ⟨_, by first | rfl | (simp [qqj, qqi] <;> rfl) | (simp [*, qqj, qqi] <;> rfl), by first | exact Kd.R_nil _ _ _ _ _ | exact Kd.N_nil _ _ _ _ _ | exact Kd.V_nil _ _ _ _ _ | exact Kd.Q_nil _ _ _ _ _ | exact Kd.S_nil _ _ _ _ _, by repeat (first | (with_reducible first | exact HB.out | apply qqc | apply qqa | apply qqb) | exact HB.out)⟩
       ·rw [if_neg c7] at H
        exact absurd H (by simp)
      ·rw [if_neg c6] at H
       exact absurd H (by simp)
     ·rw [if_neg c5] at H
      exact absurd H (by simp)
    ·rw [if_neg c4] at H
     have c4b0 : decide (Q5 < (l0.length : Int)) = false := decide_eq_false c4
     clear c4
     simp only [Option.some.injEq, Prod.mk.injEq] at H
     obtain ⟨rfl, rfl⟩ := H
     go_wp2
     go_ret2
     exact ⟨_, by first | rfl | (simp [qqj, qqi] <;> rfl) | (simp [*, qqj, qqi] <;> rfl), by (with_reducible repeat (first | apply Kd.R_alloc | apply Kd.R_drewN | apply Kd.R_drew)); exact HO_6.out, by repeat (first | (with_reducible first | exact HB.out | apply qqc | apply qqa | apply qqb) | exact HB.out)⟩
 ·rw [if_neg c3] at H
  have c3b0 : ((l0.length : Int) == (l1.length : Int)) = false := beq_eq_false_iff_ne.mpr c3
  have c3b1 : ((l0.length : Int) != (l1.length : Int)) = true := bne_iff_ne.mpr c3
  have c3b2 : (l0.length == l1.length) = false := by first | simpa using c3 | (simp at c3 ⊢; omega)
  simp only [Option.some.injEq, Prod.mk.injEq] at H
  obtain ⟨rfl, rfl⟩ := H
  go_enter Tryd.func30, Tryd.ntmps30
  go_wp2
  go_ret2
  exact ⟨_, by first | rfl | (simp [qqj, qqi] <;> rfl) | (simp [*, qqj, qqi] <;> rfl), by first | exact Kd.R_nil _ _ _ _ _ | exact Kd.N_nil _ _ _ _ _ | exact Kd.V_nil _ _ _ _ _ | exact Kd.Q_nil _ _ _ _ _ | exact Kd.S_nil _ _ _ _ _, by repeat (first | (with_reducible first | exact HB.out | apply qqc | apply qqa | apply qqb) | exact HB.out)⟩
def rule_Put.f (k : Nat) (a0_0 : Int) (a0_1 : Int) (a0_2 : Int) (a0_3 : Int) (a0_4 : Int) (a0_5 : Int) : Option (List Int × Int) := (rule_May.f a0_0 a0_1 a0_2 a0_3 a0_4 a0_5).bind fun t123 => (if t123 = true then ((octets_Put.f k a0_0 4).bind fun Qg => ((some (([(a0_1) % 256, (wrap64 (a0_2 + 1)) % 256, (a0_3) % 256, (a0_4) % 256, (a0_5) % 256] : List Int) : List Int)).bind fun Qi => (if Qg.1.length + Qi.length < 140737488355328 then (some ((Qg.1 ++ Qi), Qg.2)) else (none)))) else (some (([] : List Int), 1)))
theorem rule_Put.mono : ∀ a0 a1 a2 a3 a4 a5 k, LeO (rule_Put.f k a0 a1 a2 a3 a4 a5) (rule_Put.f (k + 1) a0 a1 a2 a3 a4 a5) := by
 intro a0 a1 a2 a3 a4 a5 k
 unfold rule_Put.f
 repeat' first
   | (with_reducible exact octets_Put.mono _ _ _)
   | (with_reducible exact LeO.refl _)
   | (with_reducible exact LeO.none _)
   | (with_reducible refine LeO.ite ?_ ?_)
   | (with_reducible refine LeO.bind ?_ (fun _ => ?_))
   | exact octets_Put.mono _ _ _
   | exact LeO.none _
   | refine LeO.ite ?_ ?_
   | refine LeO.bind ?_ (fun _ => ?_)
set_option maxHeartbeats 8000000 in
set_option maxRecDepth 100000 in
theorem rule_Put.calls (k : Nat) (a0_0 : Int) (a0_1 : Int) (a0_2 : Int) (a0_3 : Int) (a0_4 : Int) (a0_5 : Int) (r1 : List Int) (r2 : Int) (w : World) (h : rule_Put.f k a0_0 a0_1 a0_2 a0_3 a0_4 a0_5 = some (r1, r2)) :
  Calls Tryd.prog 31 #[.agg #[.int .i64 a0_0, .int .i64 a0_1, .int .i64 a0_2, .int .i64 a0_3, .int .i64 a0_4, .int .i64 a0_5]] w fun e w' => ∃ v0_ : Value, e = .returned (.tuple #[v0_, .int .i64 r2]) ∧ Kd.R (Kd.int .u8) 5 w' w.heap.size (fun _ => True) v0_ r1 ∧ Below w.heap.size w w' := by
 have hu27 := Tryd.underlying27
 have HB := Aside0.mk (Below.refl w.heap.size w)
 have H : ((rule_May.f a0_0 a0_1 a0_2 a0_3 a0_4 a0_5).bind fun t123 => (if t123 = true then ((octets_Put.f k a0_0 4).bind fun Qg => ((some (([(a0_1) % 256, (wrap64 (a0_2 + 1)) % 256, (a0_3) % 256, (a0_4) % 256, (a0_5) % 256] : List Int) : List Int)).bind fun Qi => (if Qg.1.length + Qi.length < 140737488355328 then (some ((Qg.1 ++ Qi), Qg.2)) else (none)))) else (some (([] : List Int), 1)))) = some (r1, r2) := h
 clear h
 replace H := Option.bind_eq_some_iff.mp H
 obtain ⟨t123, A20, H⟩ := H
 replace H : (if t123 = true then ((octets_Put.f k a0_0 4).bind fun Qg => ((some (([(a0_1) % 256, (wrap64 (a0_2 + 1)) % 256, (a0_3) % 256, (a0_4) % 256, (a0_5) % 256] : List Int) : List Int)).bind fun Qi => (if Qg.1.length + Qi.length < 140737488355328 then (some ((Qg.1 ++ Qi), Qg.2)) else (none)))) else (some (([] : List Int), 1))) = some (r1, r2) := H
 have A2 := Aside0.mk A20
 clear A20
 by_cases c3 : t123 = true
 ·subst c3
  have H1 : ((octets_Put.f k a0_0 4).bind fun Qg => ((some (([(a0_1) % 256, (wrap64 (a0_2 + 1)) % 256, (a0_3) % 256, (a0_4) % 256, (a0_5) % 256] : List Int) : List Int)).bind fun Qi => (if Qg.1.length + Qi.length < 140737488355328 then (some ((Qg.1 ++ Qi), Qg.2)) else (none)))) = some (r1, r2) := by rw [if_pos rfl] at H; exact H
  clear H
  have H := H1
  clear H1
  replace H := Option.bind_eq_some_iff.mp H
  obtain ⟨⟨t124, t125⟩, A40, H⟩ := H
  replace H : ((some (([(a0_1) % 256, (wrap64 (a0_2 + 1)) % 256, (a0_3) % 256, (a0_4) % 256, (a0_5) % 256] : List Int) : List Int)).bind fun Qi => (if t124.length + Qi.length < 140737488355328 then (some ((t124 ++ Qi), t125)) else (none))) = some (r1, r2) := H
  have A4 := Aside0.mk A40
  clear A40
  obtain ⟨Qi, hy128⟩ : ∃ y_ : List Int, y_ = (([(a0_1) % 256, (wrap64 (a0_2 + 1)) % 256, (a0_3) % 256, (a0_4) % 256, (a0_5) % 256] : List Int)) := ⟨_, rfl⟩
  replace H : (if t124.length + Qi.length < 140737488355328 then (some ((t124 ++ Qi), t125)) else (none)) = some (r1, r2) := by first | (rw [hy128]; with_reducible exact H) | (have H2_ := (Option.bind_some _ _).symm.trans H; rw [hy128]; with_reducible exact H2_) | (have H2_ := (Option.bind_some _ _).symm.trans H; with_reducible exact H2_) | with_reducible exact H | (rw [hy128]; exact H) | exact H
  have Ny128 := Aside0.mk hy128
  clear hy128
  by_cases c5 : t124.length + Qi.length < 140737488355328
  ·rw [if_pos c5] at H
   have LMc5 := Aside0.mk c5
   clear c5
   obtain ⟨y131, hy131⟩ : ∃ y_ : List Int, y_ = (t124 ++ Qi) := ⟨_, rfl⟩
   replace H : (some (y131, t125)) = some (r1, r2) := by first | (rw [hy131]; with_reducible exact H) | (have H2_ := (Option.bind_some _ _).symm.trans H; rw [hy131]; with_reducible exact H2_) | (have H2_ := (Option.bind_some _ _).symm.trans H; with_reducible exact H2_) | with_reducible exact H | (rw [hy131]; exact H) | exact H
   have Ny131 := Aside0.mk hy131
   clear hy131
   simp only [Option.some.injEq, Prod.mk.injEq] at H
   obtain ⟨rfl, rfl⟩ := H
   go_enter Tryd.func31, Tryd.ntmps31
   go_wp2_with (first | ((with_reducible refine qqs (N := 1) rfl ?_); refine box_event ?hg (N := 1) ?hd (cs := #[.int .i64 a0_0, .int .i64 a0_1, .int .i64 a0_2, .int .i64 a0_3, .int .i64 a0_4, .int .i64 a0_5]) (t := 27) ?hr ?_; (case hd => rfl); (case hg => rfl); (case hr => first | (go_simp; done) | (go_simp; rfl)); intro gb122 hg w6 hbox hb; have n0_ := bst HB hb; have n1_ := Aside0.mk (hbox); have n2_ := szl HB hg; have n3_ := szl HB hg; clear HB; have HB := n0_; have Q9 := n1_; have GW122 := n2_; have GE122 := n3_; clear n0_ n1_ n2_ n3_; clear hb hbox hg; obtain ⟨_, _, _, _, _, _⟩ := bcells6 Q9.out; obtain ⟨_, _, _, _, _, _⟩ := bfrozen6 Q9.out) | ((with_reducible refine qqr (f := 32) rfl ?_); refine goesL_ (some 7) rfl rfl Tryd.func32 (by kernel_rfl) rfl #[.agg #[.int .i64 a0_0, .int .i64 a0_1, .int .i64 a0_2, .int .i64 a0_3, .int .i64 a0_4, .int .i64 a0_5]] rfl (by (try simp only [List.map_toArray, List.map_cons, List.map_nil]); first | done | rfl | (simp only [List.length_drop, List.length_take]; rfl)) ?_; (with_reducible refine (rule_May.calls a0_0 a0_1 a0_2 a0_3 a0_4 a0_5 true _ A2.out).mono ?_); rintro e w8 ⟨rfl, hb⟩; refine ⟨_, rfl, ?_⟩; replace Q9 := bbl Q9 hb; replace HB := bst HB hb; (try clear hb); (try clear hk); obtain ⟨hcz9_0, hcz9_1, hcz9_2, hcz9_3, hcz9_4, hcz9_5⟩ := bcells6 Q9.out; obtain ⟨hfz9_0, hfz9_1, hfz9_2, hfz9_3, hfz9_4, hfz9_5⟩ := bfrozen6 Q9.out) | ((with_reducible refine qqr (f := 42) rfl ?_); refine goesL_ (some 13) rfl rfl Tryd.func42 (by kernel_rfl) rfl #[.int .i64 a0_0, .int .i64 4] rfl (by (try simp only [List.map_toArray, List.map_cons, List.map_nil]); first | done | rfl | (simp only [List.length_drop, List.length_take]; rfl)) ?_; (with_reducible refine (octets_Put.calls k a0_0 4 t124 t125 _ A4.out).mono ?_); rintro e w10 ⟨v126, rfl, ho0, hb⟩; refine ⟨_, rfl, ?_⟩; have Yk := Aside0.mk (Kd.R_lower ho0 (qqu (by repeat (first | (with_reducible first | exact HB.out | apply qqc | apply qqa | apply qqb | refine qqd ?_ GE122.out) | exact HB.out)))); replace Q9 := bbl Q9 hb; replace HB := bst HB hb; (try clear hb); (try clear hk); (try clear ho0); obtain ⟨hcz11_0, hcz11_1, hcz11_2, hcz11_3, hcz11_4, hcz11_5⟩ := bcells6 Q9.out; obtain ⟨hfz11_0, hfz11_1, hfz11_2, hfz11_3, hfz11_4, hfz11_5⟩ := bfrozen6 Q9.out) | ((with_reducible refine qqs (N := 36) rfl ?_); refine Kd.R_lit (Kd.int .u8) _ 5 ?hg (N := 36) ?hd (xs := ([(a0_1) % 256, (wrap64 (a0_2 + 1)) % 256, (a0_3) % 256, (a0_4) % 256, (a0_5) % 256] : List Int)) (inner := [.int .u8 ((a0_1) % 256), .int .u8 ((wrap64 (a0_2 + 1)) % 256), .int .u8 ((a0_3) % 256), .int .u8 ((a0_4) % 256), .int .u8 ((a0_5) % 256)]) (ok := fun _ => True) (okp := fun _ => True) ?hr ?hp (fun _ hk => hk) trivial (Below.refl _ _) (Nat.le_refl _) (by simp) ?_; (case hd => rfl); (case hg => rfl); (case hr => first | (go_simp; done) | (go_simp; rfl)); (case hp => exact (Reps.one (show Kd.M (Kd.int .u8) _ _ _ ((a0_1) % 256) [.int .u8 ((a0_1) % 256)] from rfl) (Reps.one (show Kd.M (Kd.int .u8) _ _ _ ((wrap64 (a0_2 + 1)) % 256) [.int .u8 ((wrap64 (a0_2 + 1)) % 256)] from rfl) (Reps.one (show Kd.M (Kd.int .u8) _ _ _ ((a0_3) % 256) [.int .u8 ((a0_3) % 256)] from rfl) (Reps.one (show Kd.M (Kd.int .u8) _ _ _ ((a0_4) % 256) [.int .u8 ((a0_4) % 256)] from rfl) (Reps.one (show Kd.M (Kd.int .u8) _ _ _ ((a0_5) % 256) [.int .u8 ((a0_5) % 256)] from rfl) (Reps.none _ _))))))); intro v129 w12 ho13 hb hg_ hnew_; clear hg_ hnew_; (first | rw [← Ny128.out] at ho13 | (simp only [Int.reduceToNat] at ho13; rw [← Ny128.out] at ho13)); have n0_ := Aside0.mk (Kd.R_elder' (by (with_reducible repeat (first | apply Kd.R_alloc | apply Kd.R_drewN | apply Kd.R_drew)); exact Yk.out) (Kd.R_base ho13) hb); have n1_ := Aside0.mk (Kd.R_lower (Kd.R_new' ho13 (Kd.R_lt (by (with_reducible repeat (first | apply Kd.R_alloc | apply Kd.R_drewN | apply Kd.R_drew)); exact Yk.out))) (qqu (by repeat (first | (with_reducible first | exact HB.out | apply qqc | apply qqa | apply qqb | refine qqd ?_ GE122.out) | exact HB.out)))); have n2_ := bbl Q9 hb; have n3_ := bst HB hb; clear Yk; clear Q9; clear HB; have Yk := n0_; have Yp := n1_; have Q9 := n2_; have HB := n3_; clear n0_ n1_ n2_ n3_; clear hb ho13; obtain ⟨Ao15, co15, eo15⟩ := Kd.R_slice Yp.out; subst eo15) | ((with_reducible refine gate_builtin (b := .append) (xs := #[.tmp 16, .tmp 36]) rfl ?_); at_builtin; refine Kd.R_append_rows (Kd.int .u8) (w0 := w) w.heap.size rfl (.tmp 16) (.tmp 36) 31 5 (.int .u8 0) 1 rfl Tryd.underlying31 info5 rfl (by decide) (by omega) v126 t124 Qi _ _ _ (fun k_ => some k_ ≠ (.slice Ao15 Qi.length co15 : Value).ownBlock) (fun _ => False) rfl rfl ?aO ?aR (fun _ _ h => h) (fun _ h => h.elim) ?aF ?aB ?aS ?aL ?_; (case aR => repeat (first | exact (Kd.R_reads' Yp.out).2.2 | (with_reducible refine Kd.C_alloc ?_ _) | (with_reducible refine Kd.C_drewN ?_ _) | (with_reducible refine Kd.C_drew ?_))); (case aB => exact (by repeat (first | (with_reducible first | exact HB.out | apply qqc | apply qqa | apply qqb | refine qqd ?_ GE122.out) | exact HB.out))); (case aF => exact (fun k_ hk => Kd.fresh' (Kd.R_lt (by (with_reducible repeat (first | apply Kd.R_alloc | apply Kd.R_drewN | apply Kd.R_drew)); exact Yp.out)) k_ hk)); (case aO => exact (by (with_reducible repeat (first | apply Kd.R_alloc | apply Kd.R_drewN | apply Kd.R_drew)); exact Kd.R_mono Yk.out (fun _ hk => hk.2))); (case aS => exact (qqu (by repeat (first | (with_reducible first | exact HB.out | apply qqc | apply qqa | apply qqb | refine qqd ?_ GE122.out) | exact HB.out)))); (case aL => have := LMc5.out; omega); intro v132 w14 ho hb hg hat; rw [← Ny131.out] at ho; have n0_ := Aside0.mk (blk_grown (g := gb122) (o := .cells #[.int .i64 a0_0, .int .i64 a0_1, .int .i64 a0_2, .int .i64 a0_3, .int .i64 a0_4, .int .i64 a0_5] 27 (0, 0)) (by (with_reducible repeat (first | refine qqg ?_ _ | refine qqk ?_ | refine qqh ?_ _)); exact Q9.out) hg (Kd.R_ne Yk.out Q9.out (by decide))); have n1_ := Aside0.mk (Kd.R_after (ok := (fun _ => True)) (by (with_reducible repeat (first | apply Kd.R_alloc | apply Kd.R_drewN | apply Kd.R_drew)); exact Yp.out) hg hat); have n2_ := Aside0.mk (hb); have n3_ := Aside0.mk (ho); clear Q9; clear Yp; clear HB; clear Yk; have Q9 := n0_; have Yp := n1_; have HB := n2_; have HO133 := n3_; clear n0_ n1_ n2_ n3_; clear ho hb hg hat))
   go_ret2
   exact ⟨_, by first | rfl | (simp [qqj, qqi] <;> rfl) | (simp [*, qqj, qqi] <;> rfl), by (with_reducible repeat (first | apply Kd.R_alloc | apply Kd.R_drewN | apply Kd.R_drew)); exact Kd.R_mono HO133.out (fun _ hk => trivial), by repeat (first | (with_reducible first | exact HB.out | apply qqc | apply qqa | apply qqb | refine qqd ?_ GE122.out) | exact HB.out)⟩
  ·rw [if_neg c5] at H
   exact absurd H (by simp)
 ·replace c3 := Bool.eq_false_iff.mpr c3
  subst c3
  have H1 : (some (([] : List Int), 1)) = some (r1, r2) := by rw [if_neg (show ¬ (false = true) by decide)] at H; exact H
  clear H
  have H := H1
  clear H1
  simp only [Option.some.injEq, Prod.mk.injEq] at H
  obtain ⟨rfl, rfl⟩ := H
  go_enter Tryd.func31, Tryd.ntmps31
  go_wp2_with (first | ((with_reducible refine qqs (N := 1) rfl ?_); refine box_event ?hg (N := 1) ?hd (cs := #[.int .i64 a0_0, .int .i64 a0_1, .int .i64 a0_2, .int .i64 a0_3, .int .i64 a0_4, .int .i64 a0_5]) (t := 27) ?hr ?_; (case hd => rfl); (case hg => rfl); (case hr => first | (go_simp; done) | (go_simp; rfl)); intro gb122 hg w16 hbox hb; have n0_ := bst HB hb; have n1_ := Aside0.mk (hbox); have n2_ := szl HB hg; have n3_ := szl HB hg; clear HB; have HB := n0_; have Q9 := n1_; have GW122 := n2_; have GE122 := n3_; clear n0_ n1_ n2_ n3_; clear hb hbox hg; obtain ⟨_, _, _, _, _, _⟩ := bcells6 Q9.out; obtain ⟨_, _, _, _, _, _⟩ := bfrozen6 Q9.out) | ((with_reducible refine qqr (f := 32) rfl ?_); refine goesL_ (some 7) rfl rfl Tryd.func32 (by kernel_rfl) rfl #[.agg #[.int .i64 a0_0, .int .i64 a0_1, .int .i64 a0_2, .int .i64 a0_3, .int .i64 a0_4, .int .i64 a0_5]] rfl (by (try simp only [List.map_toArray, List.map_cons, List.map_nil]); first | done | rfl | (simp only [List.length_drop, List.length_take]; rfl)) ?_; (with_reducible refine (rule_May.calls a0_0 a0_1 a0_2 a0_3 a0_4 a0_5 false _ A2.out).mono ?_); rintro e w18 ⟨rfl, hb⟩; refine ⟨_, rfl, ?_⟩; replace Q9 := bbl Q9 hb; replace HB := bst HB hb; (try clear hb)))
  go_ret2
  exact ⟨_, by first | rfl | (simp [qqj, qqi] <;> rfl) | (simp [*, qqj, qqi] <;> rfl), by first | exact Kd.R_nil _ _ _ _ _ | exact Kd.N_nil _ _ _ _ _ | exact Kd.V_nil _ _ _ _ _ | exact Kd.Q_nil _ _ _ _ _ | exact Kd.S_nil _ _ _ _ _, by repeat (first | (with_reducible first | exact HB.out | apply qqc | apply qqa | apply qqb | refine qqd ?_ GE122.out) | exact HB.out)⟩
theorem msg_Put.cells10 {w : World} {g : Nat} {t : TypeId} {v0 v1 v2 v3 v4 v5 v6 v7 v8 v9 : Value} (h : w.heap[g]? = some (.cells #[v0, v1, v2, v3, v4, v5, v6, v7, v8, v9] t (0, 0))) : w.cell? ⟨g, 0, none⟩ = some v0 ∧ w.cell? ⟨g, 1, none⟩ = some v1 ∧ w.cell? ⟨g, 2, none⟩ = some v2 ∧ w.cell? ⟨g, 3, none⟩ = some v3 ∧ w.cell? ⟨g, 4, none⟩ = some v4 ∧ w.cell? ⟨g, 5, none⟩ = some v5 ∧ w.cell? ⟨g, 6, none⟩ = some v6 ∧ w.cell? ⟨g, 7, none⟩ = some v7 ∧ w.cell? ⟨g, 8, none⟩ = some v8 ∧ w.cell? ⟨g, 9, none⟩ = some v9 :=
 ⟨(qql h 0).trans rfl, (qql h 1).trans rfl, (qql h 2).trans rfl, (qql h 3).trans rfl, (qql h 4).trans rfl, (qql h 5).trans rfl, (qql h 6).trans rfl, (qql h 7).trans rfl, (qql h 8).trans rfl, (qql h 9).trans rfl⟩
theorem msg_Put.frozen10 {w : World} {g : Nat} {t : TypeId} {cs : Array Value} (h : w.heap[g]? = some (.cells cs t (0, 0))) : w.frozen? ⟨g, 0, none⟩ = false ∧ w.frozen? ⟨g, 1, none⟩ = false ∧ w.frozen? ⟨g, 2, none⟩ = false ∧ w.frozen? ⟨g, 3, none⟩ = false ∧ w.frozen? ⟨g, 4, none⟩ = false ∧ w.frozen? ⟨g, 5, none⟩ = false ∧ w.frozen? ⟨g, 6, none⟩ = false ∧ w.frozen? ⟨g, 7, none⟩ = false ∧ w.frozen? ⟨g, 8, none⟩ = false ∧ w.frozen? ⟨g, 9, none⟩ = false :=
 ⟨qqe h 0, qqe h 1, qqe h 2, qqe h 3, qqe h 4, qqe h 5, qqe h 6, qqe h 7, qqe h 8, qqe h 9⟩
theorem Glob.cell {w : World} (h : Glob w) (i : Nat) (v : Value) (hv : msg_table[i]? = some v) : w.cell? ⟨0, i, none⟩ = some v := by
 obtain ⟨c, t, h0, hT⟩ := h
 have hi : i < 30 := (Array.getElem?_eq_some_iff.1 hv).1
 rw [qql h0 i, hT i hi, hv]
def msg_Put.f (k : Nat) (a0_0 : Int) (a0_1 : Int) (a0_2 : Int) (a0_3 : Int) (a0_4 : Int) (a0_5 : Int) (a0_6 : Int) (a0_7 : Int) (a0_8 : Int) (a0_9 : Int) : Option (List Int × Int) := (msg_May.f a0_0 a0_1 a0_2 a0_3 a0_4 a0_5 a0_6 a0_7 a0_8 a0_9).bind fun tm => (if tm = true then ((octets_PutAll.f k ([a0_0, a0_1, a0_2, a0_3] : List Int) ([1, 3, 3, 2] : List Int)).bind fun bt => (if bt.2 = 0 then (if a0_0 = 2 then ((rule_Put.f k a0_4 a0_5 a0_6 a0_7 a0_8 a0_9).bind fun bt2 => (if bt.1.length + bt2.1.length < 140737488355328 then (some (bt.1 ++ bt2.1, bt2.2)) else (none))) else (some (bt.1, bt.2))) else (some (bt.1, bt.2)))) else (some (([] : List Int), 1)))
theorem msg_Put.mono : ∀ a0 a1 a2 a3 a4 a5 a6 a7 a8 a9 k, LeO (msg_Put.f k a0 a1 a2 a3 a4 a5 a6 a7 a8 a9) (msg_Put.f (k + 1) a0 a1 a2 a3 a4 a5 a6 a7 a8 a9) := by
 intro a0 a1 a2 a3 a4 a5 a6 a7 a8 a9 k
 unfold msg_Put.f
 repeat' first
   | (with_reducible exact rule_Put.mono _ _ _ _ _ _ _)
   | (with_reducible exact octets_PutAll.mono _ _ _)
   | (with_reducible exact LeO.refl _)
   | (with_reducible exact LeO.none _)
   | (with_reducible refine LeO.ite ?_ ?_)
   | (with_reducible refine LeO.bind ?_ (fun _ => ?_))
   | exact rule_Put.mono _ _ _ _ _ _ _
   | exact octets_PutAll.mono _ _ _
   | exact LeO.none _
   | refine LeO.ite ?_ ?_
   | refine LeO.bind ?_ (fun _ => ?_)
set_option maxHeartbeats 8000000 in
set_option maxRecDepth 100000 in
theorem msg_Put.no (K : Nat) (a0_0 : Int) (a0_1 : Int) (a0_2 : Int) (a0_3 : Int) (a0_4 : Int) (a0_5 : Int) (a0_6 : Int) (a0_7 : Int) (a0_8 : Int) (a0_9 : Int) (w : World) (hG : Glob w) (hM : msg_May.f a0_0 a0_1 a0_2 a0_3 a0_4 a0_5 a0_6 a0_7 a0_8 a0_9 = some false) :
  Calls Tryd.prog 14 #[.agg #[.int .i64 a0_0, .int .i64 a0_1, .int .i64 a0_2, .int .i64 a0_3, .int .i64 a0_4, .int .i64 a0_5, .int .i64 a0_6, .int .i64 a0_7, .int .i64 a0_8, .int .i64 a0_9]] w fun e w' => ∃ v0_ : Value, e = .returned (.tuple #[v0_, .int .i64 (1)]) ∧ Kd.R (Kd.int .u8) 5 w' w.heap.size (fun _ => True) v0_ (([] : List Int)) ∧ Below w.heap.size w w' := by
 have hu29 := Tryd.underlying29
 have hu27 := Tryd.underlying27
 have hu48 := Tryd.underlying55
 have hu49 := Tryd.underlying56
 have HB := Aside0.mk (Below.refl w.heap.size w)
 have AM := Aside0.mk hM
 clear hM
 go_enter Tryd.func14, Tryd.ntmps14
 go_wp2_with (first | ((with_reducible refine qqs (N := 1) rfl ?_); refine box_event ?hg (N := 1) ?hd (cs := #[.int .i64 a0_0, .int .i64 a0_1, .int .i64 a0_2, .int .i64 a0_3, .int .i64 a0_4, .int .i64 a0_5, .int .i64 a0_6, .int .i64 a0_7, .int .i64 a0_8, .int .i64 a0_9]) (t := 29) ?hr ?_; (case hd => rfl); (case hg => rfl); (case hr => first | (go_simp; done) | (go_simp; rfl)); intro Yg hg w35 hbox hb; have n0_ := bst HB hb; have n1_ := Aside0.mk (hbox); have n2_ := szl HB hg; have n3_ := szl HB hg; clear HB; have HB := n0_; have Q0 := n1_; have Ym := n2_; have GE168 := n3_; clear n0_ n1_ n2_ n3_; clear hb hbox hg; obtain ⟨_, _, _, _, _, _, _, _, _, _⟩ := msg_Put.cells10 Q0.out; obtain ⟨_, _, _, _, _, _, _, _, _, _⟩ := msg_Put.frozen10 Q0.out) | ((with_reducible refine qqr (f := 15) rfl ?_); refine goesL_ (some 8) rfl rfl Tryd.func15 (by kernel_rfl) rfl #[.agg #[.int .i64 a0_0, .int .i64 a0_1, .int .i64 a0_2, .int .i64 a0_3, .int .i64 a0_4, .int .i64 a0_5, .int .i64 a0_6, .int .i64 a0_7, .int .i64 a0_8, .int .i64 a0_9]] rfl (by (try simp only [List.map_toArray, List.map_cons, List.map_nil]); first | done | rfl | (simp only [List.length_drop, List.length_take]; rfl)) ?_; (with_reducible refine (msg_May.calls a0_0 a0_1 a0_2 a0_3 a0_4 a0_5 a0_6 a0_7 a0_8 a0_9 false _ (hG.below rfl HB.out) AM.out).mono ?_); rintro e w37 ⟨rfl, hb⟩; refine ⟨_, rfl, ?_⟩; replace Q0 := bbl Q0 hb; replace HB := bst HB hb; (try clear hb)))
 go_ret2
 exact ⟨_, by first | rfl | (simp [qqj, qqi] <;> rfl) | (simp [*, qqj, qqi] <;> rfl), by first | exact Kd.R_nil _ _ _ _ _ | exact Kd.N_nil _ _ _ _ _ | exact Kd.V_nil _ _ _ _ _ | exact Kd.Q_nil _ _ _ _ _ | exact Kd.S_nil _ _ _ _ _, by repeat (first | (with_reducible first | exact HB.out | apply qqc | apply qqa | apply qqb | refine qqd ?_ GE168.out) | exact HB.out)⟩
set_option maxHeartbeats 8000000 in
set_option maxRecDepth 100000 in
theorem msg_Put.bad (K : Nat) (a0_0 : Int) (a0_1 : Int) (a0_2 : Int) (a0_3 : Int) (a0_4 : Int) (a0_5 : Int) (a0_6 : Int) (a0_7 : Int) (a0_8 : Int) (a0_9 : Int) (w : World) (hG : Glob w) (hM : msg_May.f a0_0 a0_1 a0_2 a0_3 a0_4 a0_5 a0_6 a0_7 a0_8 a0_9 = some true) (Q6 : List Int) (Yh : Int) (hP : octets_PutAll.f K ([a0_0, a0_1, a0_2, a0_3] : List Int) ([1, 3, 3, 2] : List Int) = some (Q6, Yh)) (hne : ¬ Yh = 0) :
  Calls Tryd.prog 14 #[.agg #[.int .i64 a0_0, .int .i64 a0_1, .int .i64 a0_2, .int .i64 a0_3, .int .i64 a0_4, .int .i64 a0_5, .int .i64 a0_6, .int .i64 a0_7, .int .i64 a0_8, .int .i64 a0_9]] w fun e w' => ∃ v0_ : Value, e = .returned (.tuple #[v0_, .int .i64 (Yh)]) ∧ Kd.R (Kd.int .u8) 5 w' w.heap.size (fun _ => True) v0_ (Q6) ∧ Below w.heap.size w w' := by
 have hu29 := Tryd.underlying29
 have hu27 := Tryd.underlying27
 have hu48 := Tryd.underlying55
 have hu49 := Tryd.underlying56
 have HB := Aside0.mk (Below.refl w.heap.size w)
 obtain ⟨Qj, hy170⟩ : ∃ y_ : List Int, y_ = (([a0_0, a0_1, a0_2, a0_3] : List Int)) := ⟨_, rfl⟩
 rw [← hy170] at hP
 have Ny170 := Aside0.mk hy170
 clear hy170
 obtain ⟨Qk, hy173⟩ : ∃ y_ : List Int, y_ = (([1, 3, 3, 2] : List Int)) := ⟨_, rfl⟩
 rw [← hy173] at hP
 have Ny173 := Aside0.mk hy173
 clear hy173
 have AP := Aside0.mk hP
 clear hP
 have AM := Aside0.mk hM
 clear hM
 have c6b0 : (Yh == 0) = false := beq_eq_false_iff_ne.mpr hne
 have c6b1 : (Yh != 0) = true := bne_iff_ne.mpr hne
 clear hne
 go_enter Tryd.func14, Tryd.ntmps14
 go_wp2_with (first | ((with_reducible refine qqs (N := 1) rfl ?_); refine box_event ?hg (N := 1) ?hd (cs := #[.int .i64 a0_0, .int .i64 a0_1, .int .i64 a0_2, .int .i64 a0_3, .int .i64 a0_4, .int .i64 a0_5, .int .i64 a0_6, .int .i64 a0_7, .int .i64 a0_8, .int .i64 a0_9]) (t := 29) ?hr ?_; (case hd => rfl); (case hg => rfl); (case hr => first | (go_simp; done) | (go_simp; rfl)); intro Yg hg w23 hbox hb; have n0_ := bst HB hb; have n1_ := Aside0.mk (hbox); have n2_ := szl HB hg; have n3_ := szl HB hg; clear HB; have HB := n0_; have Q0 := n1_; have Ym := n2_; have GE168 := n3_; clear n0_ n1_ n2_ n3_; clear hb hbox hg; obtain ⟨Qr, Qs, Qt, Qu, Qv, Qw, Qx, Qy, Qz, X0⟩ := msg_Put.cells10 Q0.out; obtain ⟨X1, X2, X3, X4, X5, X6, X7, X8, X9, Xa⟩ := msg_Put.frozen10 Q0.out) | ((with_reducible refine qqr (f := 15) rfl ?_); refine goesL_ (some 8) rfl rfl Tryd.func15 (by kernel_rfl) rfl #[.agg #[.int .i64 a0_0, .int .i64 a0_1, .int .i64 a0_2, .int .i64 a0_3, .int .i64 a0_4, .int .i64 a0_5, .int .i64 a0_6, .int .i64 a0_7, .int .i64 a0_8, .int .i64 a0_9]] rfl (by (try simp only [List.map_toArray, List.map_cons, List.map_nil]); first | done | rfl | (simp only [List.length_drop, List.length_take]; rfl)) ?_; (with_reducible refine (msg_May.calls a0_0 a0_1 a0_2 a0_3 a0_4 a0_5 a0_6 a0_7 a0_8 a0_9 true _ (hG.below rfl HB.out) AM.out).mono ?_); rintro e w25 ⟨rfl, hb⟩; refine ⟨_, rfl, ?_⟩; replace Q0 := bbl Q0 hb; replace HB := bst HB hb; (try clear hb); (try clear hk); obtain ⟨Xb, Xc, Xd, Xe, Xf, Xg, Xh, Xi, Xj, Xk⟩ := msg_Put.cells10 Q0.out; obtain ⟨Xm, Xn, Xo, Xp, Xq, Xr, Xs, Xt, Xu, Xv⟩ := msg_Put.frozen10 Q0.out) | ((with_reducible refine qqs (N := 19) rfl ?_); refine Kd.R_lit (Kd.int .i64) _ 3 ?hg (N := 19) ?hd (xs := ([a0_0, a0_1, a0_2, a0_3] : List Int)) (inner := [.int .i64 a0_0, .int .i64 a0_1, .int .i64 a0_2, .int .i64 a0_3]) (ok := fun _ => True) (okp := fun _ => True) ?hr ?hp (fun _ hk => hk) trivial (Below.refl _ _) (Nat.le_refl _) (by simp) ?_; (case hd => rfl); (case hg => rfl); (case hr => first | (go_simp; done) | (go_simp; rfl)); (case hp => exact (Reps.one (show Kd.M (Kd.int .i64) _ _ _ a0_0 [.int .i64 a0_0] from rfl) (Reps.one (show Kd.M (Kd.int .i64) _ _ _ a0_1 [.int .i64 a0_1] from rfl) (Reps.one (show Kd.M (Kd.int .i64) _ _ _ a0_2 [.int .i64 a0_2] from rfl) (Reps.one (show Kd.M (Kd.int .i64) _ _ _ a0_3 [.int .i64 a0_3] from rfl) (Reps.none _ _)))))); intro v171 w27 ho28 hb hg_ hnew_; clear hg_ hnew_; (first | rw [← Ny170.out] at ho28 | (simp only [Int.reduceToNat] at ho28; rw [← Ny170.out] at ho28)); have Q1 := Aside0.mk (Kd.R_lower ho28 (qqu (by repeat (first | (with_reducible first | exact HB.out | apply qqc | apply qqa | apply qqb | refine qqd ?_ GE168.out) | exact HB.out)))); replace Q0 := bbl Q0 hb; replace HB := bst HB hb; clear hb ho28) | ((with_reducible refine qqs (N := 20) rfl ?_); refine Kd.R_lit (Kd.int .i64) _ 3 ?hg (N := 20) ?hd (xs := ([1, 3, 3, 2] : List Int)) (inner := [.int .i64 1, .int .i64 3, .int .i64 3, .int .i64 2]) (ok := fun _ => True) (okp := fun _ => True) ?hr ?hp (fun _ hk => hk) trivial (Below.refl _ _) (Nat.le_refl _) (by simp) ?_; (case hd => rfl); (case hg => rfl); (case hr => first | (go_simp; done) | (go_simp; rfl)); (case hp => exact (Reps.one (show Kd.M (Kd.int .i64) _ _ _ 1 [.int .i64 1] from rfl) (Reps.one (show Kd.M (Kd.int .i64) _ _ _ 3 [.int .i64 3] from rfl) (Reps.one (show Kd.M (Kd.int .i64) _ _ _ 3 [.int .i64 3] from rfl) (Reps.one (show Kd.M (Kd.int .i64) _ _ _ 2 [.int .i64 2] from rfl) (Reps.none _ _)))))); intro v174 w29 ho30 hb hg_ hnew_; clear hg_ hnew_; (first | rw [← Ny173.out] at ho30 | (simp only [Int.reduceToNat] at ho30; rw [← Ny173.out] at ho30)); have n0_ := Aside0.mk (Kd.R_elder' (by (with_reducible repeat (first | apply Kd.R_alloc | apply Kd.R_drewN | apply Kd.R_drew)); exact Q1.out) (Kd.R_base ho30) hb); have n1_ := Aside0.mk (Kd.R_lower (Kd.R_new' ho30 (Kd.R_lt (by (with_reducible repeat (first | apply Kd.R_alloc | apply Kd.R_drewN | apply Kd.R_drew)); exact Q1.out))) (qqu (by repeat (first | (with_reducible first | exact HB.out | apply qqc | apply qqa | apply qqb | refine qqd ?_ GE168.out) | exact HB.out)))); have n2_ := bbl Q0 hb; have n3_ := bst HB hb; clear Q1; clear Q0; clear HB; have Q1 := n0_; have Q2 := n1_; have Q0 := n2_; have HB := n3_; clear n0_ n1_ n2_ n3_; clear hb ho30; obtain ⟨Ao31, co31, eo31⟩ := Kd.R_slice Q1.out; subst eo31; obtain ⟨Ao32, co32, eo32⟩ := Kd.R_slice Q2.out; subst eo32) | ((with_reducible refine qqr (f := 30) rfl ?_); refine goesL_ (some 21) rfl rfl Tryd.func30 (by kernel_rfl) rfl #[.slice Ao31 Qj.length co31, .slice Ao32 Qk.length co32] rfl (by (try simp only [List.map_toArray, List.map_cons, List.map_nil]); first | done | rfl | (simp only [List.length_drop, List.length_take]; rfl)) ?_; (with_reducible refine (octets_PutAll.calls K _ _ Qj _ _ Qk Q6 Yh _ ?side1 ?side2 ?side3 ?side4 AP.out).mono ?_); (case side1 => repeat (first | exact (Kd.R_reads' Q1.out).2.2 | (with_reducible refine Kd.C_alloc ?_ _) | (with_reducible refine Kd.C_drewN ?_ _) | (with_reducible refine Kd.C_drew ?_))); (case side2 => exact (Kd.R_reads' Q1.out).2.1); (case side3 => repeat (first | exact (Kd.R_reads' Q2.out).2.2 | (with_reducible refine Kd.C_alloc ?_ _) | (with_reducible refine Kd.C_drewN ?_ _) | (with_reducible refine Kd.C_drew ?_))); (case side4 => exact (Kd.R_reads' Q2.out).2.1); rintro e w33 ⟨v178, rfl, ho0, hb⟩; refine ⟨_, rfl, ?_⟩; replace Q1 := Aside0.mk (Kd.R_below (by (with_reducible repeat (first | apply Kd.R_alloc | apply Kd.R_drewN | apply Kd.R_drew)); exact Q1.out) hb); replace Q2 := Aside0.mk (Kd.R_below (by (with_reducible repeat (first | apply Kd.R_alloc | apply Kd.R_drewN | apply Kd.R_drew)); exact Q2.out) hb); have Qb := Aside0.mk (Kd.R_lower ho0 (qqu (by repeat (first | (with_reducible first | exact HB.out | apply qqc | apply qqa | apply qqb | refine qqd ?_ GE168.out) | exact HB.out)))); replace Q0 := bbl Q0 hb; replace HB := bst HB hb; (try clear hb); (try clear hk); (try clear ho0); obtain ⟨Xw, Xx, Xy, Xz, Y0, Y1, Y2, Y3, Y4, Y5⟩ := msg_Put.cells10 Q0.out; obtain ⟨Y6, Y7, Y8, Y9, Ya, Yb, Yc, Yd, Ye, Yf⟩ := msg_Put.frozen10 Q0.out))
 go_ret2
 exact ⟨_, by first | rfl | (simp [qqj, qqi] <;> rfl) | (simp [*, qqj, qqi] <;> rfl), by (with_reducible repeat (first | apply Kd.R_alloc | apply Kd.R_drewN | apply Kd.R_drew)); exact Qb.out, by repeat (first | (with_reducible first | exact HB.out | apply qqc | apply qqa | apply qqb | refine qqd ?_ GE168.out) | exact HB.out)⟩
set_option maxHeartbeats 8000000 in
set_option maxRecDepth 100000 in
theorem msg_Put.at0 (K : Nat) (a0_1 : Int) (a0_2 : Int) (a0_3 : Int) (a0_4 : Int) (a0_5 : Int) (a0_6 : Int) (a0_7 : Int) (a0_8 : Int) (a0_9 : Int) (w : World) (hG : Glob w) (hM : msg_May.f 0 a0_1 a0_2 a0_3 a0_4 a0_5 a0_6 a0_7 a0_8 a0_9 = some true) (Q6 : List Int) (hP : octets_PutAll.f K ([0, a0_1, a0_2, a0_3] : List Int) ([1, 3, 3, 2] : List Int) = some (Q6, 0)) :
  Calls Tryd.prog 14 #[.agg #[.int .i64 0, .int .i64 a0_1, .int .i64 a0_2, .int .i64 a0_3, .int .i64 a0_4, .int .i64 a0_5, .int .i64 a0_6, .int .i64 a0_7, .int .i64 a0_8, .int .i64 a0_9]] w fun e w' => ∃ v0_ : Value, e = .returned (.tuple #[v0_, .int .i64 (0)]) ∧ Kd.R (Kd.int .u8) 5 w' w.heap.size (fun _ => True) v0_ (Q6) ∧ Below w.heap.size w w' := by
 have hu29 := Tryd.underlying29
 have hu27 := Tryd.underlying27
 have hu48 := Tryd.underlying55
 have hu49 := Tryd.underlying56
 have HB := Aside0.mk (Below.refl w.heap.size w)
 obtain ⟨Qj, hy170⟩ : ∃ y_ : List Int, y_ = (([0, a0_1, a0_2, a0_3] : List Int)) := ⟨_, rfl⟩
 rw [← hy170] at hP
 have Ny170 := Aside0.mk hy170
 clear hy170
 obtain ⟨Qk, hy173⟩ : ∃ y_ : List Int, y_ = (([1, 3, 3, 2] : List Int)) := ⟨_, rfl⟩
 rw [← hy173] at hP
 have Ny173 := Aside0.mk hy173
 clear hy173
 have AP := Aside0.mk hP
 clear hP
 have AM := Aside0.mk hM
 clear hM
 go_enter Tryd.func14, Tryd.ntmps14
 go_wp2_with (first | ((with_reducible refine qqs (N := 1) rfl ?_); refine box_event ?hg (N := 1) ?hd (cs := #[.int .i64 0, .int .i64 a0_1, .int .i64 a0_2, .int .i64 a0_3, .int .i64 a0_4, .int .i64 a0_5, .int .i64 a0_6, .int .i64 a0_7, .int .i64 a0_8, .int .i64 a0_9]) (t := 29) ?hr ?_; (case hd => rfl); (case hg => rfl); (case hr => first | (go_simp; done) | (go_simp; rfl)); intro Yg hg w23 hbox hb; have n0_ := bst HB hb; have n1_ := Aside0.mk (hbox); have n2_ := szl HB hg; have n3_ := szl HB hg; clear HB; have HB := n0_; have Q0 := n1_; have Ym := n2_; have GE168 := n3_; clear n0_ n1_ n2_ n3_; clear hb hbox hg; obtain ⟨Qr, Qs, Qt, Qu, Qv, Qw, Qx, Qy, Qz, X0⟩ := msg_Put.cells10 Q0.out; obtain ⟨X1, X2, X3, X4, X5, X6, X7, X8, X9, Xa⟩ := msg_Put.frozen10 Q0.out; have hgl := (hG.below rfl HB.out).cell 4 (.bool false) rfl) | ((with_reducible refine qqr (f := 15) rfl ?_); refine goesL_ (some 8) rfl rfl Tryd.func15 (by kernel_rfl) rfl #[.agg #[.int .i64 0, .int .i64 a0_1, .int .i64 a0_2, .int .i64 a0_3, .int .i64 a0_4, .int .i64 a0_5, .int .i64 a0_6, .int .i64 a0_7, .int .i64 a0_8, .int .i64 a0_9]] rfl (by (try simp only [List.map_toArray, List.map_cons, List.map_nil]); first | done | rfl | (simp only [List.length_drop, List.length_take]; rfl)) ?_; (with_reducible refine (msg_May.calls 0 a0_1 a0_2 a0_3 a0_4 a0_5 a0_6 a0_7 a0_8 a0_9 true _ (hG.below rfl HB.out) AM.out).mono ?_); rintro e w25 ⟨rfl, hb⟩; refine ⟨_, rfl, ?_⟩; replace Q0 := bbl Q0 hb; replace HB := bst HB hb; (try clear hb); (try clear hk); obtain ⟨Xb, Xc, Xd, Xe, Xf, Xg, Xh, Xi, Xj, Xk⟩ := msg_Put.cells10 Q0.out; obtain ⟨Xm, Xn, Xo, Xp, Xq, Xr, Xs, Xt, Xu, Xv⟩ := msg_Put.frozen10 Q0.out; have hgl := (hG.below rfl HB.out).cell 4 (.bool false) rfl) | ((with_reducible refine qqs (N := 19) rfl ?_); refine Kd.R_lit (Kd.int .i64) _ 3 ?hg (N := 19) ?hd (xs := ([0, a0_1, a0_2, a0_3] : List Int)) (inner := [.int .i64 0, .int .i64 a0_1, .int .i64 a0_2, .int .i64 a0_3]) (ok := fun _ => True) (okp := fun _ => True) ?hr ?hp (fun _ hk => hk) trivial (Below.refl _ _) (Nat.le_refl _) (by simp) ?_; (case hd => rfl); (case hg => rfl); (case hr => first | (go_simp; done) | (go_simp; rfl)); (case hp => exact (Reps.one (show Kd.M (Kd.int .i64) _ _ _ 0 [.int .i64 0] from rfl) (Reps.one (show Kd.M (Kd.int .i64) _ _ _ a0_1 [.int .i64 a0_1] from rfl) (Reps.one (show Kd.M (Kd.int .i64) _ _ _ a0_2 [.int .i64 a0_2] from rfl) (Reps.one (show Kd.M (Kd.int .i64) _ _ _ a0_3 [.int .i64 a0_3] from rfl) (Reps.none _ _)))))); intro v171 w27 ho28 hb hg_ hnew_; clear hg_ hnew_; (first | rw [← Ny170.out] at ho28 | (simp only [Int.reduceToNat] at ho28; rw [← Ny170.out] at ho28)); have Q1 := Aside0.mk (Kd.R_lower ho28 (qqu (by repeat (first | (with_reducible first | exact HB.out | apply qqc | apply qqa | apply qqb | refine qqd ?_ GE168.out) | exact HB.out)))); replace Q0 := bbl Q0 hb; replace HB := bst HB hb; clear hb ho28; have hgl := (hG.below rfl HB.out).cell 4 (.bool false) rfl) | ((with_reducible refine qqs (N := 20) rfl ?_); refine Kd.R_lit (Kd.int .i64) _ 3 ?hg (N := 20) ?hd (xs := ([1, 3, 3, 2] : List Int)) (inner := [.int .i64 1, .int .i64 3, .int .i64 3, .int .i64 2]) (ok := fun _ => True) (okp := fun _ => True) ?hr ?hp (fun _ hk => hk) trivial (Below.refl _ _) (Nat.le_refl _) (by simp) ?_; (case hd => rfl); (case hg => rfl); (case hr => first | (go_simp; done) | (go_simp; rfl)); (case hp => exact (Reps.one (show Kd.M (Kd.int .i64) _ _ _ 1 [.int .i64 1] from rfl) (Reps.one (show Kd.M (Kd.int .i64) _ _ _ 3 [.int .i64 3] from rfl) (Reps.one (show Kd.M (Kd.int .i64) _ _ _ 3 [.int .i64 3] from rfl) (Reps.one (show Kd.M (Kd.int .i64) _ _ _ 2 [.int .i64 2] from rfl) (Reps.none _ _)))))); intro v174 w29 ho30 hb hg_ hnew_; clear hg_ hnew_; (first | rw [← Ny173.out] at ho30 | (simp only [Int.reduceToNat] at ho30; rw [← Ny173.out] at ho30)); have n0_ := Aside0.mk (Kd.R_elder' (by (with_reducible repeat (first | apply Kd.R_alloc | apply Kd.R_drewN | apply Kd.R_drew)); exact Q1.out) (Kd.R_base ho30) hb); have n1_ := Aside0.mk (Kd.R_lower (Kd.R_new' ho30 (Kd.R_lt (by (with_reducible repeat (first | apply Kd.R_alloc | apply Kd.R_drewN | apply Kd.R_drew)); exact Q1.out))) (qqu (by repeat (first | (with_reducible first | exact HB.out | apply qqc | apply qqa | apply qqb | refine qqd ?_ GE168.out) | exact HB.out)))); have n2_ := bbl Q0 hb; have n3_ := bst HB hb; clear Q1; clear Q0; clear HB; have Q1 := n0_; have Q2 := n1_; have Q0 := n2_; have HB := n3_; clear n0_ n1_ n2_ n3_; clear hb ho30; obtain ⟨Ao31, co31, eo31⟩ := Kd.R_slice Q1.out; subst eo31; obtain ⟨Ao32, co32, eo32⟩ := Kd.R_slice Q2.out; subst eo32; have hgl := (hG.below rfl HB.out).cell 4 (.bool false) rfl) | ((with_reducible refine qqr (f := 30) rfl ?_); refine goesL_ (some 21) rfl rfl Tryd.func30 (by kernel_rfl) rfl #[.slice Ao31 Qj.length co31, .slice Ao32 Qk.length co32] rfl (by (try simp only [List.map_toArray, List.map_cons, List.map_nil]); first | done | rfl | (simp only [List.length_drop, List.length_take]; rfl)) ?_; (with_reducible refine (octets_PutAll.calls K _ _ Qj _ _ Qk Q6 0 _ ?side1 ?side2 ?side3 ?side4 AP.out).mono ?_); (case side1 => repeat (first | exact (Kd.R_reads' Q1.out).2.2 | (with_reducible refine Kd.C_alloc ?_ _) | (with_reducible refine Kd.C_drewN ?_ _) | (with_reducible refine Kd.C_drew ?_))); (case side2 => exact (Kd.R_reads' Q1.out).2.1); (case side3 => repeat (first | exact (Kd.R_reads' Q2.out).2.2 | (with_reducible refine Kd.C_alloc ?_ _) | (with_reducible refine Kd.C_drewN ?_ _) | (with_reducible refine Kd.C_drew ?_))); (case side4 => exact (Kd.R_reads' Q2.out).2.1); rintro e w33 ⟨v178, rfl, ho0, hb⟩; refine ⟨_, rfl, ?_⟩; replace Q1 := Aside0.mk (Kd.R_below (by (with_reducible repeat (first | apply Kd.R_alloc | apply Kd.R_drewN | apply Kd.R_drew)); exact Q1.out) hb); replace Q2 := Aside0.mk (Kd.R_below (by (with_reducible repeat (first | apply Kd.R_alloc | apply Kd.R_drewN | apply Kd.R_drew)); exact Q2.out) hb); have Qb := Aside0.mk (Kd.R_lower ho0 (qqu (by repeat (first | (with_reducible first | exact HB.out | apply qqc | apply qqa | apply qqb | refine qqd ?_ GE168.out) | exact HB.out)))); replace Q0 := bbl Q0 hb; replace HB := bst HB hb; (try clear hb); (try clear hk); (try clear ho0); obtain ⟨Xw, Xx, Xy, Xz, Y0, Y1, Y2, Y3, Y4, Y5⟩ := msg_Put.cells10 Q0.out; obtain ⟨Y6, Y7, Y8, Y9, Ya, Yb, Yc, Yd, Ye, Yf⟩ := msg_Put.frozen10 Q0.out; have hgl := (hG.below rfl HB.out).cell 4 (.bool false) rfl))
 go_ret2
 exact ⟨_, by first | rfl | (simp [qqj, qqi] <;> rfl) | (simp [*, qqj, qqi] <;> rfl), by (with_reducible repeat (first | apply Kd.R_alloc | apply Kd.R_drewN | apply Kd.R_drew)); exact Qb.out, by repeat (first | (with_reducible first | exact HB.out | apply qqc | apply qqa | apply qqb | refine qqd ?_ GE168.out) | exact HB.out)⟩
set_option maxHeartbeats 8000000 in
set_option maxRecDepth 100000 in
theorem msg_Put.at1 (K : Nat) (a0_1 : Int) (a0_2 : Int) (a0_3 : Int) (a0_4 : Int) (a0_5 : Int) (a0_6 : Int) (a0_7 : Int) (a0_8 : Int) (a0_9 : Int) (w : World) (hG : Glob w) (hM : msg_May.f 1 a0_1 a0_2 a0_3 a0_4 a0_5 a0_6 a0_7 a0_8 a0_9 = some true) (Q6 : List Int) (hP : octets_PutAll.f K ([1, a0_1, a0_2, a0_3] : List Int) ([1, 3, 3, 2] : List Int) = some (Q6, 0)) :
  Calls Tryd.prog 14 #[.agg #[.int .i64 1, .int .i64 a0_1, .int .i64 a0_2, .int .i64 a0_3, .int .i64 a0_4, .int .i64 a0_5, .int .i64 a0_6, .int .i64 a0_7, .int .i64 a0_8, .int .i64 a0_9]] w fun e w' => ∃ v0_ : Value, e = .returned (.tuple #[v0_, .int .i64 (0)]) ∧ Kd.R (Kd.int .u8) 5 w' w.heap.size (fun _ => True) v0_ (Q6) ∧ Below w.heap.size w w' := by
 have hu29 := Tryd.underlying29
 have hu27 := Tryd.underlying27
 have hu48 := Tryd.underlying55
 have hu49 := Tryd.underlying56
 have HB := Aside0.mk (Below.refl w.heap.size w)
 obtain ⟨Qj, hy170⟩ : ∃ y_ : List Int, y_ = (([1, a0_1, a0_2, a0_3] : List Int)) := ⟨_, rfl⟩
 rw [← hy170] at hP
 have Ny170 := Aside0.mk hy170
 clear hy170
 obtain ⟨Qk, hy173⟩ : ∃ y_ : List Int, y_ = (([1, 3, 3, 2] : List Int)) := ⟨_, rfl⟩
 rw [← hy173] at hP
 have Ny173 := Aside0.mk hy173
 clear hy173
 have AP := Aside0.mk hP
 clear hP
 have AM := Aside0.mk hM
 clear hM
 go_enter Tryd.func14, Tryd.ntmps14
 go_wp2_with (first | ((with_reducible refine qqs (N := 1) rfl ?_); refine box_event ?hg (N := 1) ?hd (cs := #[.int .i64 1, .int .i64 a0_1, .int .i64 a0_2, .int .i64 a0_3, .int .i64 a0_4, .int .i64 a0_5, .int .i64 a0_6, .int .i64 a0_7, .int .i64 a0_8, .int .i64 a0_9]) (t := 29) ?hr ?_; (case hd => rfl); (case hg => rfl); (case hr => first | (go_simp; done) | (go_simp; rfl)); intro Yg hg w23 hbox hb; have n0_ := bst HB hb; have n1_ := Aside0.mk (hbox); have n2_ := szl HB hg; have n3_ := szl HB hg; clear HB; have HB := n0_; have Q0 := n1_; have Ym := n2_; have GE168 := n3_; clear n0_ n1_ n2_ n3_; clear hb hbox hg; obtain ⟨Qr, Qs, Qt, Qu, Qv, Qw, Qx, Qy, Qz, X0⟩ := msg_Put.cells10 Q0.out; obtain ⟨X1, X2, X3, X4, X5, X6, X7, X8, X9, Xa⟩ := msg_Put.frozen10 Q0.out; have hgl := (hG.below rfl HB.out).cell 9 (.bool false) rfl) | ((with_reducible refine qqr (f := 15) rfl ?_); refine goesL_ (some 8) rfl rfl Tryd.func15 (by kernel_rfl) rfl #[.agg #[.int .i64 1, .int .i64 a0_1, .int .i64 a0_2, .int .i64 a0_3, .int .i64 a0_4, .int .i64 a0_5, .int .i64 a0_6, .int .i64 a0_7, .int .i64 a0_8, .int .i64 a0_9]] rfl (by (try simp only [List.map_toArray, List.map_cons, List.map_nil]); first | done | rfl | (simp only [List.length_drop, List.length_take]; rfl)) ?_; (with_reducible refine (msg_May.calls 1 a0_1 a0_2 a0_3 a0_4 a0_5 a0_6 a0_7 a0_8 a0_9 true _ (hG.below rfl HB.out) AM.out).mono ?_); rintro e w25 ⟨rfl, hb⟩; refine ⟨_, rfl, ?_⟩; replace Q0 := bbl Q0 hb; replace HB := bst HB hb; (try clear hb); (try clear hk); obtain ⟨Xb, Xc, Xd, Xe, Xf, Xg, Xh, Xi, Xj, Xk⟩ := msg_Put.cells10 Q0.out; obtain ⟨Xm, Xn, Xo, Xp, Xq, Xr, Xs, Xt, Xu, Xv⟩ := msg_Put.frozen10 Q0.out; have hgl := (hG.below rfl HB.out).cell 9 (.bool false) rfl) | ((with_reducible refine qqs (N := 19) rfl ?_); refine Kd.R_lit (Kd.int .i64) _ 3 ?hg (N := 19) ?hd (xs := ([1, a0_1, a0_2, a0_3] : List Int)) (inner := [.int .i64 1, .int .i64 a0_1, .int .i64 a0_2, .int .i64 a0_3]) (ok := fun _ => True) (okp := fun _ => True) ?hr ?hp (fun _ hk => hk) trivial (Below.refl _ _) (Nat.le_refl _) (by simp) ?_; (case hd => rfl); (case hg => rfl); (case hr => first | (go_simp; done) | (go_simp; rfl)); (case hp => exact (Reps.one (show Kd.M (Kd.int .i64) _ _ _ 1 [.int .i64 1] from rfl) (Reps.one (show Kd.M (Kd.int .i64) _ _ _ a0_1 [.int .i64 a0_1] from rfl) (Reps.one (show Kd.M (Kd.int .i64) _ _ _ a0_2 [.int .i64 a0_2] from rfl) (Reps.one (show Kd.M (Kd.int .i64) _ _ _ a0_3 [.int .i64 a0_3] from rfl) (Reps.none _ _)))))); intro v171 w27 ho28 hb hg_ hnew_; clear hg_ hnew_; (first | rw [← Ny170.out] at ho28 | (simp only [Int.reduceToNat] at ho28; rw [← Ny170.out] at ho28)); have Q1 := Aside0.mk (Kd.R_lower ho28 (qqu (by repeat (first | (with_reducible first | exact HB.out | apply qqc | apply qqa | apply qqb | refine qqd ?_ GE168.out) | exact HB.out)))); replace Q0 := bbl Q0 hb; replace HB := bst HB hb; clear hb ho28; have hgl := (hG.below rfl HB.out).cell 9 (.bool false) rfl) | ((with_reducible refine qqs (N := 20) rfl ?_); refine Kd.R_lit (Kd.int .i64) _ 3 ?hg (N := 20) ?hd (xs := ([1, 3, 3, 2] : List Int)) (inner := [.int .i64 1, .int .i64 3, .int .i64 3, .int .i64 2]) (ok := fun _ => True) (okp := fun _ => True) ?hr ?hp (fun _ hk => hk) trivial (Below.refl _ _) (Nat.le_refl _) (by simp) ?_; (case hd => rfl); (case hg => rfl); (case hr => first | (go_simp; done) | (go_simp; rfl)); (case hp => exact (Reps.one (show Kd.M (Kd.int .i64) _ _ _ 1 [.int .i64 1] from rfl) (Reps.one (show Kd.M (Kd.int .i64) _ _ _ 3 [.int .i64 3] from rfl) (Reps.one (show Kd.M (Kd.int .i64) _ _ _ 3 [.int .i64 3] from rfl) (Reps.one (show Kd.M (Kd.int .i64) _ _ _ 2 [.int .i64 2] from rfl) (Reps.none _ _)))))); intro v174 w29 ho30 hb hg_ hnew_; clear hg_ hnew_; (first | rw [← Ny173.out] at ho30 | (simp only [Int.reduceToNat] at ho30; rw [← Ny173.out] at ho30)); have n0_ := Aside0.mk (Kd.R_elder' (by (with_reducible repeat (first | apply Kd.R_alloc | apply Kd.R_drewN | apply Kd.R_drew)); exact Q1.out) (Kd.R_base ho30) hb); have n1_ := Aside0.mk (Kd.R_lower (Kd.R_new' ho30 (Kd.R_lt (by (with_reducible repeat (first | apply Kd.R_alloc | apply Kd.R_drewN | apply Kd.R_drew)); exact Q1.out))) (qqu (by repeat (first | (with_reducible first | exact HB.out | apply qqc | apply qqa | apply qqb | refine qqd ?_ GE168.out) | exact HB.out)))); have n2_ := bbl Q0 hb; have n3_ := bst HB hb; clear Q1; clear Q0; clear HB; have Q1 := n0_; have Q2 := n1_; have Q0 := n2_; have HB := n3_; clear n0_ n1_ n2_ n3_; clear hb ho30; obtain ⟨Ao31, co31, eo31⟩ := Kd.R_slice Q1.out; subst eo31; obtain ⟨Ao32, co32, eo32⟩ := Kd.R_slice Q2.out; subst eo32; have hgl := (hG.below rfl HB.out).cell 9 (.bool false) rfl) | ((with_reducible refine qqr (f := 30) rfl ?_); refine goesL_ (some 21) rfl rfl Tryd.func30 (by kernel_rfl) rfl #[.slice Ao31 Qj.length co31, .slice Ao32 Qk.length co32] rfl (by (try simp only [List.map_toArray, List.map_cons, List.map_nil]); first | done | rfl | (simp only [List.length_drop, List.length_take]; rfl)) ?_; (with_reducible refine (octets_PutAll.calls K _ _ Qj _ _ Qk Q6 0 _ ?side1 ?side2 ?side3 ?side4 AP.out).mono ?_); (case side1 => repeat (first | exact (Kd.R_reads' Q1.out).2.2 | (with_reducible refine Kd.C_alloc ?_ _) | (with_reducible refine Kd.C_drewN ?_ _) | (with_reducible refine Kd.C_drew ?_))); (case side2 => exact (Kd.R_reads' Q1.out).2.1); (case side3 => repeat (first | exact (Kd.R_reads' Q2.out).2.2 | (with_reducible refine Kd.C_alloc ?_ _) | (with_reducible refine Kd.C_drewN ?_ _) | (with_reducible refine Kd.C_drew ?_))); (case side4 => exact (Kd.R_reads' Q2.out).2.1); rintro e w33 ⟨v178, rfl, ho0, hb⟩; refine ⟨_, rfl, ?_⟩; replace Q1 := Aside0.mk (Kd.R_below (by (with_reducible repeat (first | apply Kd.R_alloc | apply Kd.R_drewN | apply Kd.R_drew)); exact Q1.out) hb); replace Q2 := Aside0.mk (Kd.R_below (by (with_reducible repeat (first | apply Kd.R_alloc | apply Kd.R_drewN | apply Kd.R_drew)); exact Q2.out) hb); have Qb := Aside0.mk (Kd.R_lower ho0 (qqu (by repeat (first | (with_reducible first | exact HB.out | apply qqc | apply qqa | apply qqb | refine qqd ?_ GE168.out) | exact HB.out)))); replace Q0 := bbl Q0 hb; replace HB := bst HB hb; (try clear hb); (try clear hk); (try clear ho0); obtain ⟨Xw, Xx, Xy, Xz, Y0, Y1, Y2, Y3, Y4, Y5⟩ := msg_Put.cells10 Q0.out; obtain ⟨Y6, Y7, Y8, Y9, Ya, Yb, Yc, Yd, Ye, Yf⟩ := msg_Put.frozen10 Q0.out; have hgl := (hG.below rfl HB.out).cell 9 (.bool false) rfl))
 go_ret2
 exact ⟨_, by first | rfl | (simp [qqj, qqi] <;> rfl) | (simp [*, qqj, qqi] <;> rfl), by (with_reducible repeat (first | apply Kd.R_alloc | apply Kd.R_drewN | apply Kd.R_drew)); exact Qb.out, by repeat (first | (with_reducible first | exact HB.out | apply qqc | apply qqa | apply qqb | refine qqd ?_ GE168.out) | exact HB.out)⟩
set_option maxHeartbeats 8000000 in
set_option maxRecDepth 100000 in
theorem msg_Put.at2 (K : Nat) (a0_1 : Int) (a0_2 : Int) (a0_3 : Int) (a0_4 : Int) (a0_5 : Int) (a0_6 : Int) (a0_7 : Int) (a0_8 : Int) (a0_9 : Int) (w : World) (hG : Glob w) (hM : msg_May.f 2 a0_1 a0_2 a0_3 a0_4 a0_5 a0_6 a0_7 a0_8 a0_9 = some true) (Q6 : List Int) (hP : octets_PutAll.f K ([2, a0_1, a0_2, a0_3] : List Int) ([1, 3, 3, 2] : List Int) = some (Q6, 0)) (Yi : List Int) (t183 : Int) (hR : rule_Put.f K a0_4 a0_5 a0_6 a0_7 a0_8 a0_9 = some (Yi, t183)) (hl : Q6.length + Yi.length < 140737488355328) :
  Calls Tryd.prog 14 #[.agg #[.int .i64 2, .int .i64 a0_1, .int .i64 a0_2, .int .i64 a0_3, .int .i64 a0_4, .int .i64 a0_5, .int .i64 a0_6, .int .i64 a0_7, .int .i64 a0_8, .int .i64 a0_9]] w fun e w' => ∃ v0_ : Value, e = .returned (.tuple #[v0_, .int .i64 (t183)]) ∧ Kd.R (Kd.int .u8) 5 w' w.heap.size (fun _ => True) v0_ (Q6 ++ Yi) ∧ Below w.heap.size w w' := by
 have hu29 := Tryd.underlying29
 have hu27 := Tryd.underlying27
 have hu48 := Tryd.underlying55
 have hu49 := Tryd.underlying56
 have HB := Aside0.mk (Below.refl w.heap.size w)
 obtain ⟨Qj, hy170⟩ : ∃ y_ : List Int, y_ = (([2, a0_1, a0_2, a0_3] : List Int)) := ⟨_, rfl⟩
 rw [← hy170] at hP
 have Ny170 := Aside0.mk hy170
 clear hy170
 obtain ⟨Qk, hy173⟩ : ∃ y_ : List Int, y_ = (([1, 3, 3, 2] : List Int)) := ⟨_, rfl⟩
 rw [← hy173] at hP
 have Ny173 := Aside0.mk hy173
 clear hy173
 have AP := Aside0.mk hP
 clear hP
 have AM := Aside0.mk hM
 clear hM
 have AR := Aside0.mk hR
 clear hR
 have LMc7 := Aside0.mk hl
 clear hl
 obtain ⟨y184, hy184⟩ : ∃ y_ : List Int, y_ = (Q6 ++ Yi) := ⟨_, rfl⟩
 rw [← hy184]
 have Ny184 := Aside0.mk hy184
 clear hy184
 go_enter Tryd.func14, Tryd.ntmps14
 go_wp2_with (first | ((with_reducible refine qqs (N := 1) rfl ?_); refine box_event ?hg (N := 1) ?hd (cs := #[.int .i64 2, .int .i64 a0_1, .int .i64 a0_2, .int .i64 a0_3, .int .i64 a0_4, .int .i64 a0_5, .int .i64 a0_6, .int .i64 a0_7, .int .i64 a0_8, .int .i64 a0_9]) (t := 29) ?hr ?_; (case hd => rfl); (case hg => rfl); (case hr => first | (go_simp; done) | (go_simp; rfl)); intro Yg hg w8 hbox hb; have n0_ := bst HB hb; have n1_ := Aside0.mk (hbox); have n2_ := szl HB hg; have n3_ := szl HB hg; clear HB; have HB := n0_; have Q0 := n1_; have Ym := n2_; have GE168 := n3_; clear n0_ n1_ n2_ n3_; clear hb hbox hg; obtain ⟨hcz9_0, hcz9_1, hcz9_2, hcz9_3, hcz9_4, hcz9_5, _, _, _, _⟩ := msg_Put.cells10 Q0.out; obtain ⟨hfz9_0, hfz9_1, hfz9_2, hfz9_3, hfz9_4, hfz9_5, _, _, _, _⟩ := msg_Put.frozen10 Q0.out; have hgl := (hG.below rfl HB.out).cell 14 (.bool true) rfl) | ((with_reducible refine qqr (f := 15) rfl ?_); refine goesL_ (some 8) rfl rfl Tryd.func15 (by kernel_rfl) rfl #[.agg #[.int .i64 2, .int .i64 a0_1, .int .i64 a0_2, .int .i64 a0_3, .int .i64 a0_4, .int .i64 a0_5, .int .i64 a0_6, .int .i64 a0_7, .int .i64 a0_8, .int .i64 a0_9]] rfl (by (try simp only [List.map_toArray, List.map_cons, List.map_nil]); first | done | rfl | (simp only [List.length_drop, List.length_take]; rfl)) ?_; (with_reducible refine (msg_May.calls 2 a0_1 a0_2 a0_3 a0_4 a0_5 a0_6 a0_7 a0_8 a0_9 true _ (hG.below rfl HB.out) AM.out).mono ?_); rintro e w10 ⟨rfl, hb⟩; refine ⟨_, rfl, ?_⟩; replace Q0 := bbl Q0 hb; replace HB := bst HB hb; (try clear hb); (try clear hk); obtain ⟨hcz11_0, hcz11_1, hcz11_2, hcz11_3, hcz11_4, hcz11_5, _, _, _, _⟩ := msg_Put.cells10 Q0.out; obtain ⟨hfz11_0, hfz11_1, hfz11_2, hfz11_3, hfz11_4, hfz11_5, _, _, _, _⟩ := msg_Put.frozen10 Q0.out; have hgl := (hG.below rfl HB.out).cell 14 (.bool true) rfl) | ((with_reducible refine qqs (N := 19) rfl ?_); refine Kd.R_lit (Kd.int .i64) _ 3 ?hg (N := 19) ?hd (xs := ([2, a0_1, a0_2, a0_3] : List Int)) (inner := [.int .i64 2, .int .i64 a0_1, .int .i64 a0_2, .int .i64 a0_3]) (ok := fun _ => True) (okp := fun _ => True) ?hr ?hp (fun _ hk => hk) trivial (Below.refl _ _) (Nat.le_refl _) (by simp) ?_; (case hd => rfl); (case hg => rfl); (case hr => first | (go_simp; done) | (go_simp; rfl)); (case hp => exact (Reps.one (show Kd.M (Kd.int .i64) _ _ _ 2 [.int .i64 2] from rfl) (Reps.one (show Kd.M (Kd.int .i64) _ _ _ a0_1 [.int .i64 a0_1] from rfl) (Reps.one (show Kd.M (Kd.int .i64) _ _ _ a0_2 [.int .i64 a0_2] from rfl) (Reps.one (show Kd.M (Kd.int .i64) _ _ _ a0_3 [.int .i64 a0_3] from rfl) (Reps.none _ _)))))); intro v171 w12 ho13 hb hg_ hnew_; clear hg_ hnew_; (first | rw [← Ny170.out] at ho13 | (simp only [Int.reduceToNat] at ho13; rw [← Ny170.out] at ho13)); have Q1 := Aside0.mk (Kd.R_lower ho13 (qqu (by repeat (first | (with_reducible first | exact HB.out | apply qqc | apply qqa | apply qqb | refine qqd ?_ GE168.out) | exact HB.out)))); replace Q0 := bbl Q0 hb; replace HB := bst HB hb; clear hb ho13; have hgl := (hG.below rfl HB.out).cell 14 (.bool true) rfl) | ((with_reducible refine qqs (N := 20) rfl ?_); refine Kd.R_lit (Kd.int .i64) _ 3 ?hg (N := 20) ?hd (xs := ([1, 3, 3, 2] : List Int)) (inner := [.int .i64 1, .int .i64 3, .int .i64 3, .int .i64 2]) (ok := fun _ => True) (okp := fun _ => True) ?hr ?hp (fun _ hk => hk) trivial (Below.refl _ _) (Nat.le_refl _) (by simp) ?_; (case hd => rfl); (case hg => rfl); (case hr => first | (go_simp; done) | (go_simp; rfl)); (case hp => exact (Reps.one (show Kd.M (Kd.int .i64) _ _ _ 1 [.int .i64 1] from rfl) (Reps.one (show Kd.M (Kd.int .i64) _ _ _ 3 [.int .i64 3] from rfl) (Reps.one (show Kd.M (Kd.int .i64) _ _ _ 3 [.int .i64 3] from rfl) (Reps.one (show Kd.M (Kd.int .i64) _ _ _ 2 [.int .i64 2] from rfl) (Reps.none _ _)))))); intro v174 w14 ho15 hb hg_ hnew_; clear hg_ hnew_; (first | rw [← Ny173.out] at ho15 | (simp only [Int.reduceToNat] at ho15; rw [← Ny173.out] at ho15)); have n0_ := Aside0.mk (Kd.R_elder' (by (with_reducible repeat (first | apply Kd.R_alloc | apply Kd.R_drewN | apply Kd.R_drew)); exact Q1.out) (Kd.R_base ho15) hb); have n1_ := Aside0.mk (Kd.R_lower (Kd.R_new' ho15 (Kd.R_lt (by (with_reducible repeat (first | apply Kd.R_alloc | apply Kd.R_drewN | apply Kd.R_drew)); exact Q1.out))) (qqu (by repeat (first | (with_reducible first | exact HB.out | apply qqc | apply qqa | apply qqb | refine qqd ?_ GE168.out) | exact HB.out)))); have n2_ := bbl Q0 hb; have n3_ := bst HB hb; clear Q1; clear Q0; clear HB; have Q1 := n0_; have Q2 := n1_; have Q0 := n2_; have HB := n3_; clear n0_ n1_ n2_ n3_; clear hb ho15; obtain ⟨Ao16, co16, eo16⟩ := Kd.R_slice Q1.out; subst eo16; obtain ⟨Ao17, co17, eo17⟩ := Kd.R_slice Q2.out; subst eo17; have hgl := (hG.below rfl HB.out).cell 14 (.bool true) rfl) | ((with_reducible refine qqr (f := 30) rfl ?_); refine goesL_ (some 21) rfl rfl Tryd.func30 (by kernel_rfl) rfl #[.slice Ao16 Qj.length co16, .slice Ao17 Qk.length co17] rfl (by (try simp only [List.map_toArray, List.map_cons, List.map_nil]); first | done | rfl | (simp only [List.length_drop, List.length_take]; rfl)) ?_; (with_reducible refine (octets_PutAll.calls K _ _ Qj _ _ Qk Q6 0 _ ?side1 ?side2 ?side3 ?side4 AP.out).mono ?_); (case side1 => repeat (first | exact (Kd.R_reads' Q1.out).2.2 | (with_reducible refine Kd.C_alloc ?_ _) | (with_reducible refine Kd.C_drewN ?_ _) | (with_reducible refine Kd.C_drew ?_))); (case side2 => exact (Kd.R_reads' Q1.out).2.1); (case side3 => repeat (first | exact (Kd.R_reads' Q2.out).2.2 | (with_reducible refine Kd.C_alloc ?_ _) | (with_reducible refine Kd.C_drewN ?_ _) | (with_reducible refine Kd.C_drew ?_))); (case side4 => exact (Kd.R_reads' Q2.out).2.1); rintro e w18 ⟨v178, rfl, ho0, hb⟩; refine ⟨_, rfl, ?_⟩; replace Q1 := Aside0.mk (Kd.R_below (by (with_reducible repeat (first | apply Kd.R_alloc | apply Kd.R_drewN | apply Kd.R_drew)); exact Q1.out) hb); replace Q2 := Aside0.mk (Kd.R_below (by (with_reducible repeat (first | apply Kd.R_alloc | apply Kd.R_drewN | apply Kd.R_drew)); exact Q2.out) hb); have Qb := Aside0.mk (Kd.R_lower ho0 (qqu (by repeat (first | (with_reducible first | exact HB.out | apply qqc | apply qqa | apply qqb | refine qqd ?_ GE168.out) | exact HB.out)))); replace Q0 := bbl Q0 hb; replace HB := bst HB hb; (try clear hb); (try clear hk); (try clear ho0); obtain ⟨_, _, _, _, _, _, _, _, _, _⟩ := msg_Put.cells10 Q0.out; obtain ⟨_, _, _, _, _, _, _, _, _, _⟩ := msg_Put.frozen10 Q0.out; have hgl := (hG.below rfl HB.out).cell 14 (.bool true) rfl) | ((with_reducible refine qqr (f := 31) rfl ?_); refine goesL_ (some 39) rfl rfl Tryd.func31 (by kernel_rfl) rfl #[.agg #[.int .i64 a0_4, .int .i64 a0_5, .int .i64 a0_6, .int .i64 a0_7, .int .i64 a0_8, .int .i64 a0_9]] rfl (by (try simp only [List.map_toArray, List.map_cons, List.map_nil]); first | done | rfl | (simp only [List.length_drop, List.length_take]; rfl)) ?_; (with_reducible refine (rule_Put.calls K a0_4 a0_5 a0_6 a0_7 a0_8 a0_9 Yi t183 _ AR.out).mono ?_); rintro e w20 ⟨v181, rfl, ho0, hb⟩; refine ⟨_, rfl, ?_⟩; have n0_ := Aside0.mk (Kd.R_below (by (with_reducible repeat (first | apply Kd.R_alloc | apply Kd.R_drewN | apply Kd.R_drew)); exact Q1.out) hb); have n1_ := Aside0.mk (Kd.R_below (by (with_reducible repeat (first | apply Kd.R_alloc | apply Kd.R_drewN | apply Kd.R_drew)); exact Q2.out) hb); have n2_ := Aside0.mk (Kd.R_elder' (by (with_reducible repeat (first | apply Kd.R_alloc | apply Kd.R_drewN | apply Kd.R_drew)); exact Qb.out) (Kd.R_base ho0) hb); have n3_ := Aside0.mk (Kd.R_lower (Kd.R_new' ho0 (Kd.R_lt (by (with_reducible repeat (first | apply Kd.R_alloc | apply Kd.R_drewN | apply Kd.R_drew)); exact Qb.out))) (qqu (by repeat (first | (with_reducible first | exact HB.out | apply qqc | apply qqa | apply qqb | refine qqd ?_ GE168.out) | exact HB.out)))); have n4_ := bbl Q0 hb; have n5_ := bst HB hb; clear Q1; clear Q2; clear Qb; clear Q0; clear HB; have Q1 := n0_; have Q2 := n1_; have Qb := n2_; have Yq := n3_; have Q0 := n4_; have HB := n5_; clear n0_ n1_ n2_ n3_ n4_ n5_; (try clear hb); (try clear hk); (try clear ho0); obtain ⟨Ao22, co22, eo22⟩ := Kd.R_slice Yq.out; subst eo22; have hgl := (hG.below rfl HB.out).cell 14 (.bool true) rfl) | ((with_reducible refine gate_builtin (b := .append) (xs := #[.tmp 42, .tmp 43]) rfl ?_); at_builtin; refine Kd.R_append_rows (Kd.int .u8) (w0 := w) w.heap.size rfl (.tmp 42) (.tmp 43) 31 5 (.int .u8 0) 1 rfl Tryd.underlying31 info5 rfl (by decide) (by omega) v178 Q6 Yi _ _ _ (fun k_ => some k_ ≠ (.slice Ao22 Yi.length co22 : Value).ownBlock) (fun _ => False) rfl rfl ?aO ?aR (fun _ _ h => h) (fun _ h => h.elim) ?aF ?aB ?aS ?aL ?_; (case aR => repeat (first | exact (Kd.R_reads' Yq.out).2.2 | (with_reducible refine Kd.C_alloc ?_ _) | (with_reducible refine Kd.C_drewN ?_ _) | (with_reducible refine Kd.C_drew ?_))); (case aB => exact (by repeat (first | (with_reducible first | exact HB.out | apply qqc | apply qqa | apply qqb | refine qqd ?_ GE168.out) | exact HB.out))); (case aF => exact (fun k_ hk => Kd.fresh' (Kd.R_lt (by (with_reducible repeat (first | apply Kd.R_alloc | apply Kd.R_drewN | apply Kd.R_drew)); exact Yq.out)) k_ hk)); (case aO => exact (by (with_reducible repeat (first | apply Kd.R_alloc | apply Kd.R_drewN | apply Kd.R_drew)); exact Kd.R_mono Qb.out (fun _ hk => hk.2))); (case aS => exact (qqu (by repeat (first | (with_reducible first | exact HB.out | apply qqc | apply qqa | apply qqb | refine qqd ?_ GE168.out) | exact HB.out)))); (case aL => have := LMc7.out; omega); intro v185 w21 ho hb hg hat; rw [← Ny184.out] at ho; have n0_ := Aside0.mk (blk_grown (g := Yg) (o := .cells #[.int .i64 2, .int .i64 a0_1, .int .i64 a0_2, .int .i64 a0_3, .int .i64 a0_4, .int .i64 a0_5, .int .i64 a0_6, .int .i64 a0_7, .int .i64 a0_8, .int .i64 a0_9] 29 (0, 0)) (by (with_reducible repeat (first | refine qqg ?_ _ | refine qqk ?_ | refine qqh ?_ _)); exact Q0.out) hg (Kd.R_ne Qb.out Q0.out (by decide))); have n1_ := Aside0.mk (Kd.R_over' (by (with_reducible repeat (first | apply Kd.R_alloc | apply Kd.R_drewN | apply Kd.R_drew)); exact Q1.out) (Kd.R_typed (by (with_reducible repeat (first | apply Kd.R_alloc | apply Kd.R_drewN | apply Kd.R_drew)); exact Qb.out)) (by decide) hg); have n2_ := Aside0.mk (Kd.R_over' (by (with_reducible repeat (first | apply Kd.R_alloc | apply Kd.R_drewN | apply Kd.R_drew)); exact Q2.out) (Kd.R_typed (by (with_reducible repeat (first | apply Kd.R_alloc | apply Kd.R_drewN | apply Kd.R_drew)); exact Qb.out)) (by decide) hg); have n3_ := Aside0.mk (Kd.R_after (ok := (fun _ => True)) (by (with_reducible repeat (first | apply Kd.R_alloc | apply Kd.R_drewN | apply Kd.R_drew)); exact Yq.out) hg hat); have n4_ := Aside0.mk (hb); have n5_ := Aside0.mk (ho); clear Q0; clear Q1; clear Q2; clear Yq; clear HB; clear Qb; have Q0 := n0_; have Q1 := n1_; have Q2 := n2_; have Yq := n3_; have HB := n4_; have HO186 := n5_; clear n0_ n1_ n2_ n3_ n4_ n5_; clear ho hb hg hat; have hgl := (hG.below rfl HB.out).cell 14 (.bool true) rfl))
 go_ret2
 exact ⟨_, by first | rfl | (simp [qqj, qqi] <;> rfl) | (simp [*, qqj, qqi] <;> rfl), by (with_reducible repeat (first | apply Kd.R_alloc | apply Kd.R_drewN | apply Kd.R_drew)); exact Kd.R_mono HO186.out (fun _ hk => trivial), by repeat (first | (with_reducible first | exact HB.out | apply qqc | apply qqa | apply qqb | refine qqd ?_ GE168.out) | exact HB.out)⟩
set_option maxHeartbeats 8000000 in
set_option maxRecDepth 100000 in
theorem msg_Put.at3 (K : Nat) (a0_1 : Int) (a0_2 : Int) (a0_3 : Int) (a0_4 : Int) (a0_5 : Int) (a0_6 : Int) (a0_7 : Int) (a0_8 : Int) (a0_9 : Int) (w : World) (hG : Glob w) (hM : msg_May.f 3 a0_1 a0_2 a0_3 a0_4 a0_5 a0_6 a0_7 a0_8 a0_9 = some true) (Q6 : List Int) (hP : octets_PutAll.f K ([3, a0_1, a0_2, a0_3] : List Int) ([1, 3, 3, 2] : List Int) = some (Q6, 0)) :
  Calls Tryd.prog 14 #[.agg #[.int .i64 3, .int .i64 a0_1, .int .i64 a0_2, .int .i64 a0_3, .int .i64 a0_4, .int .i64 a0_5, .int .i64 a0_6, .int .i64 a0_7, .int .i64 a0_8, .int .i64 a0_9]] w fun e w' => ∃ v0_ : Value, e = .returned (.tuple #[v0_, .int .i64 (0)]) ∧ Kd.R (Kd.int .u8) 5 w' w.heap.size (fun _ => True) v0_ (Q6) ∧ Below w.heap.size w w' := by
 have hu29 := Tryd.underlying29
 have hu27 := Tryd.underlying27
 have hu48 := Tryd.underlying55
 have hu49 := Tryd.underlying56
 have HB := Aside0.mk (Below.refl w.heap.size w)
 obtain ⟨Qj, hy170⟩ : ∃ y_ : List Int, y_ = (([3, a0_1, a0_2, a0_3] : List Int)) := ⟨_, rfl⟩
 rw [← hy170] at hP
 have Ny170 := Aside0.mk hy170
 clear hy170
 obtain ⟨Qk, hy173⟩ : ∃ y_ : List Int, y_ = (([1, 3, 3, 2] : List Int)) := ⟨_, rfl⟩
 rw [← hy173] at hP
 have Ny173 := Aside0.mk hy173
 clear hy173
 have AP := Aside0.mk hP
 clear hP
 have AM := Aside0.mk hM
 clear hM
 go_enter Tryd.func14, Tryd.ntmps14
 go_wp2_with (first | ((with_reducible refine qqs (N := 1) rfl ?_); refine box_event ?hg (N := 1) ?hd (cs := #[.int .i64 3, .int .i64 a0_1, .int .i64 a0_2, .int .i64 a0_3, .int .i64 a0_4, .int .i64 a0_5, .int .i64 a0_6, .int .i64 a0_7, .int .i64 a0_8, .int .i64 a0_9]) (t := 29) ?hr ?_; (case hd => rfl); (case hg => rfl); (case hr => first | (go_simp; done) | (go_simp; rfl)); intro Yg hg w23 hbox hb; have n0_ := bst HB hb; have n1_ := Aside0.mk (hbox); have n2_ := szl HB hg; have n3_ := szl HB hg; clear HB; have HB := n0_; have Q0 := n1_; have Ym := n2_; have GE168 := n3_; clear n0_ n1_ n2_ n3_; clear hb hbox hg; obtain ⟨Qr, Qs, Qt, Qu, Qv, Qw, Qx, Qy, Qz, X0⟩ := msg_Put.cells10 Q0.out; obtain ⟨X1, X2, X3, X4, X5, X6, X7, X8, X9, Xa⟩ := msg_Put.frozen10 Q0.out; have hgl := (hG.below rfl HB.out).cell 19 (.bool false) rfl) | ((with_reducible refine qqr (f := 15) rfl ?_); refine goesL_ (some 8) rfl rfl Tryd.func15 (by kernel_rfl) rfl #[.agg #[.int .i64 3, .int .i64 a0_1, .int .i64 a0_2, .int .i64 a0_3, .int .i64 a0_4, .int .i64 a0_5, .int .i64 a0_6, .int .i64 a0_7, .int .i64 a0_8, .int .i64 a0_9]] rfl (by (try simp only [List.map_toArray, List.map_cons, List.map_nil]); first | done | rfl | (simp only [List.length_drop, List.length_take]; rfl)) ?_; (with_reducible refine (msg_May.calls 3 a0_1 a0_2 a0_3 a0_4 a0_5 a0_6 a0_7 a0_8 a0_9 true _ (hG.below rfl HB.out) AM.out).mono ?_); rintro e w25 ⟨rfl, hb⟩; refine ⟨_, rfl, ?_⟩; replace Q0 := bbl Q0 hb; replace HB := bst HB hb; (try clear hb); (try clear hk); obtain ⟨Xb, Xc, Xd, Xe, Xf, Xg, Xh, Xi, Xj, Xk⟩ := msg_Put.cells10 Q0.out; obtain ⟨Xm, Xn, Xo, Xp, Xq, Xr, Xs, Xt, Xu, Xv⟩ := msg_Put.frozen10 Q0.out; have hgl := (hG.below rfl HB.out).cell 19 (.bool false) rfl) | ((with_reducible refine qqs (N := 19) rfl ?_); refine Kd.R_lit (Kd.int .i64) _ 3 ?hg (N := 19) ?hd (xs := ([3, a0_1, a0_2, a0_3] : List Int)) (inner := [.int .i64 3, .int .i64 a0_1, .int .i64 a0_2, .int .i64 a0_3]) (ok := fun _ => True) (okp := fun _ => True) ?hr ?hp (fun _ hk => hk) trivial (Below.refl _ _) (Nat.le_refl _) (by simp) ?_; (case hd => rfl); (case hg => rfl); (case hr => first | (go_simp; done) | (go_simp; rfl)); (case hp => exact (Reps.one (show Kd.M (Kd.int .i64) _ _ _ 3 [.int .i64 3] from rfl) (Reps.one (show Kd.M (Kd.int .i64) _ _ _ a0_1 [.int .i64 a0_1] from rfl) (Reps.one (show Kd.M (Kd.int .i64) _ _ _ a0_2 [.int .i64 a0_2] from rfl) (Reps.one (show Kd.M (Kd.int .i64) _ _ _ a0_3 [.int .i64 a0_3] from rfl) (Reps.none _ _)))))); intro v171 w27 ho28 hb hg_ hnew_; clear hg_ hnew_; (first | rw [← Ny170.out] at ho28 | (simp only [Int.reduceToNat] at ho28; rw [← Ny170.out] at ho28)); have Q1 := Aside0.mk (Kd.R_lower ho28 (qqu (by repeat (first | (with_reducible first | exact HB.out | apply qqc | apply qqa | apply qqb | refine qqd ?_ GE168.out) | exact HB.out)))); replace Q0 := bbl Q0 hb; replace HB := bst HB hb; clear hb ho28; have hgl := (hG.below rfl HB.out).cell 19 (.bool false) rfl) | ((with_reducible refine qqs (N := 20) rfl ?_); refine Kd.R_lit (Kd.int .i64) _ 3 ?hg (N := 20) ?hd (xs := ([1, 3, 3, 2] : List Int)) (inner := [.int .i64 1, .int .i64 3, .int .i64 3, .int .i64 2]) (ok := fun _ => True) (okp := fun _ => True) ?hr ?hp (fun _ hk => hk) trivial (Below.refl _ _) (Nat.le_refl _) (by simp) ?_; (case hd => rfl); (case hg => rfl); (case hr => first | (go_simp; done) | (go_simp; rfl)); (case hp => exact (Reps.one (show Kd.M (Kd.int .i64) _ _ _ 1 [.int .i64 1] from rfl) (Reps.one (show Kd.M (Kd.int .i64) _ _ _ 3 [.int .i64 3] from rfl) (Reps.one (show Kd.M (Kd.int .i64) _ _ _ 3 [.int .i64 3] from rfl) (Reps.one (show Kd.M (Kd.int .i64) _ _ _ 2 [.int .i64 2] from rfl) (Reps.none _ _)))))); intro v174 w29 ho30 hb hg_ hnew_; clear hg_ hnew_; (first | rw [← Ny173.out] at ho30 | (simp only [Int.reduceToNat] at ho30; rw [← Ny173.out] at ho30)); have n0_ := Aside0.mk (Kd.R_elder' (by (with_reducible repeat (first | apply Kd.R_alloc | apply Kd.R_drewN | apply Kd.R_drew)); exact Q1.out) (Kd.R_base ho30) hb); have n1_ := Aside0.mk (Kd.R_lower (Kd.R_new' ho30 (Kd.R_lt (by (with_reducible repeat (first | apply Kd.R_alloc | apply Kd.R_drewN | apply Kd.R_drew)); exact Q1.out))) (qqu (by repeat (first | (with_reducible first | exact HB.out | apply qqc | apply qqa | apply qqb | refine qqd ?_ GE168.out) | exact HB.out)))); have n2_ := bbl Q0 hb; have n3_ := bst HB hb; clear Q1; clear Q0; clear HB; have Q1 := n0_; have Q2 := n1_; have Q0 := n2_; have HB := n3_; clear n0_ n1_ n2_ n3_; clear hb ho30; obtain ⟨Ao31, co31, eo31⟩ := Kd.R_slice Q1.out; subst eo31; obtain ⟨Ao32, co32, eo32⟩ := Kd.R_slice Q2.out; subst eo32; have hgl := (hG.below rfl HB.out).cell 19 (.bool false) rfl) | ((with_reducible refine qqr (f := 30) rfl ?_); refine goesL_ (some 21) rfl rfl Tryd.func30 (by kernel_rfl) rfl #[.slice Ao31 Qj.length co31, .slice Ao32 Qk.length co32] rfl (by (try simp only [List.map_toArray, List.map_cons, List.map_nil]); first | done | rfl | (simp only [List.length_drop, List.length_take]; rfl)) ?_; (with_reducible refine (octets_PutAll.calls K _ _ Qj _ _ Qk Q6 0 _ ?side1 ?side2 ?side3 ?side4 AP.out).mono ?_); (case side1 => repeat (first | exact (Kd.R_reads' Q1.out).2.2 | (with_reducible refine Kd.C_alloc ?_ _) | (with_reducible refine Kd.C_drewN ?_ _) | (with_reducible refine Kd.C_drew ?_))); (case side2 => exact (Kd.R_reads' Q1.out).2.1); (case side3 => repeat (first | exact (Kd.R_reads' Q2.out).2.2 | (with_reducible refine Kd.C_alloc ?_ _) | (with_reducible refine Kd.C_drewN ?_ _) | (with_reducible refine Kd.C_drew ?_))); (case side4 => exact (Kd.R_reads' Q2.out).2.1); rintro e w33 ⟨v178, rfl, ho0, hb⟩; refine ⟨_, rfl, ?_⟩; replace Q1 := Aside0.mk (Kd.R_below (by (with_reducible repeat (first | apply Kd.R_alloc | apply Kd.R_drewN | apply Kd.R_drew)); exact Q1.out) hb); replace Q2 := Aside0.mk (Kd.R_below (by (with_reducible repeat (first | apply Kd.R_alloc | apply Kd.R_drewN | apply Kd.R_drew)); exact Q2.out) hb); have Qb := Aside0.mk (Kd.R_lower ho0 (qqu (by repeat (first | (with_reducible first | exact HB.out | apply qqc | apply qqa | apply qqb | refine qqd ?_ GE168.out) | exact HB.out)))); replace Q0 := bbl Q0 hb; replace HB := bst HB hb; (try clear hb); (try clear hk); (try clear ho0); obtain ⟨Xw, Xx, Xy, Xz, Y0, Y1, Y2, Y3, Y4, Y5⟩ := msg_Put.cells10 Q0.out; obtain ⟨Y6, Y7, Y8, Y9, Ya, Yb, Yc, Yd, Ye, Yf⟩ := msg_Put.frozen10 Q0.out; have hgl := (hG.below rfl HB.out).cell 19 (.bool false) rfl))
 go_ret2
 exact ⟨_, by first | rfl | (simp [qqj, qqi] <;> rfl) | (simp [*, qqj, qqi] <;> rfl), by (with_reducible repeat (first | apply Kd.R_alloc | apply Kd.R_drewN | apply Kd.R_drew)); exact Qb.out, by repeat (first | (with_reducible first | exact HB.out | apply qqc | apply qqa | apply qqb | refine qqd ?_ GE168.out) | exact HB.out)⟩
set_option maxHeartbeats 8000000 in
set_option maxRecDepth 100000 in
theorem msg_Put.at4 (K : Nat) (a0_1 : Int) (a0_2 : Int) (a0_3 : Int) (a0_4 : Int) (a0_5 : Int) (a0_6 : Int) (a0_7 : Int) (a0_8 : Int) (a0_9 : Int) (w : World) (hG : Glob w) (hM : msg_May.f 4 a0_1 a0_2 a0_3 a0_4 a0_5 a0_6 a0_7 a0_8 a0_9 = some true) (Q6 : List Int) (hP : octets_PutAll.f K ([4, a0_1, a0_2, a0_3] : List Int) ([1, 3, 3, 2] : List Int) = some (Q6, 0)) :
  Calls Tryd.prog 14 #[.agg #[.int .i64 4, .int .i64 a0_1, .int .i64 a0_2, .int .i64 a0_3, .int .i64 a0_4, .int .i64 a0_5, .int .i64 a0_6, .int .i64 a0_7, .int .i64 a0_8, .int .i64 a0_9]] w fun e w' => ∃ v0_ : Value, e = .returned (.tuple #[v0_, .int .i64 (0)]) ∧ Kd.R (Kd.int .u8) 5 w' w.heap.size (fun _ => True) v0_ (Q6) ∧ Below w.heap.size w w' := by
 have hu29 := Tryd.underlying29
 have hu27 := Tryd.underlying27
 have hu48 := Tryd.underlying55
 have hu49 := Tryd.underlying56
 have HB := Aside0.mk (Below.refl w.heap.size w)
 obtain ⟨Qj, hy170⟩ : ∃ y_ : List Int, y_ = (([4, a0_1, a0_2, a0_3] : List Int)) := ⟨_, rfl⟩
 rw [← hy170] at hP
 have Ny170 := Aside0.mk hy170
 clear hy170
 obtain ⟨Qk, hy173⟩ : ∃ y_ : List Int, y_ = (([1, 3, 3, 2] : List Int)) := ⟨_, rfl⟩
 rw [← hy173] at hP
 have Ny173 := Aside0.mk hy173
 clear hy173
 have AP := Aside0.mk hP
 clear hP
 have AM := Aside0.mk hM
 clear hM
 go_enter Tryd.func14, Tryd.ntmps14
 go_wp2_with (first | ((with_reducible refine qqs (N := 1) rfl ?_); refine box_event ?hg (N := 1) ?hd (cs := #[.int .i64 4, .int .i64 a0_1, .int .i64 a0_2, .int .i64 a0_3, .int .i64 a0_4, .int .i64 a0_5, .int .i64 a0_6, .int .i64 a0_7, .int .i64 a0_8, .int .i64 a0_9]) (t := 29) ?hr ?_; (case hd => rfl); (case hg => rfl); (case hr => first | (go_simp; done) | (go_simp; rfl)); intro Yg hg w23 hbox hb; have n0_ := bst HB hb; have n1_ := Aside0.mk (hbox); have n2_ := szl HB hg; have n3_ := szl HB hg; clear HB; have HB := n0_; have Q0 := n1_; have Ym := n2_; have GE168 := n3_; clear n0_ n1_ n2_ n3_; clear hb hbox hg; obtain ⟨Qr, Qs, Qt, Qu, Qv, Qw, Qx, Qy, Qz, X0⟩ := msg_Put.cells10 Q0.out; obtain ⟨X1, X2, X3, X4, X5, X6, X7, X8, X9, Xa⟩ := msg_Put.frozen10 Q0.out; have hgl := (hG.below rfl HB.out).cell 24 (.bool false) rfl) | ((with_reducible refine qqr (f := 15) rfl ?_); refine goesL_ (some 8) rfl rfl Tryd.func15 (by kernel_rfl) rfl #[.agg #[.int .i64 4, .int .i64 a0_1, .int .i64 a0_2, .int .i64 a0_3, .int .i64 a0_4, .int .i64 a0_5, .int .i64 a0_6, .int .i64 a0_7, .int .i64 a0_8, .int .i64 a0_9]] rfl (by (try simp only [List.map_toArray, List.map_cons, List.map_nil]); first | done | rfl | (simp only [List.length_drop, List.length_take]; rfl)) ?_; (with_reducible refine (msg_May.calls 4 a0_1 a0_2 a0_3 a0_4 a0_5 a0_6 a0_7 a0_8 a0_9 true _ (hG.below rfl HB.out) AM.out).mono ?_); rintro e w25 ⟨rfl, hb⟩; refine ⟨_, rfl, ?_⟩; replace Q0 := bbl Q0 hb; replace HB := bst HB hb; (try clear hb); (try clear hk); obtain ⟨Xb, Xc, Xd, Xe, Xf, Xg, Xh, Xi, Xj, Xk⟩ := msg_Put.cells10 Q0.out; obtain ⟨Xm, Xn, Xo, Xp, Xq, Xr, Xs, Xt, Xu, Xv⟩ := msg_Put.frozen10 Q0.out; have hgl := (hG.below rfl HB.out).cell 24 (.bool false) rfl) | ((with_reducible refine qqs (N := 19) rfl ?_); refine Kd.R_lit (Kd.int .i64) _ 3 ?hg (N := 19) ?hd (xs := ([4, a0_1, a0_2, a0_3] : List Int)) (inner := [.int .i64 4, .int .i64 a0_1, .int .i64 a0_2, .int .i64 a0_3]) (ok := fun _ => True) (okp := fun _ => True) ?hr ?hp (fun _ hk => hk) trivial (Below.refl _ _) (Nat.le_refl _) (by simp) ?_; (case hd => rfl); (case hg => rfl); (case hr => first | (go_simp; done) | (go_simp; rfl)); (case hp => exact (Reps.one (show Kd.M (Kd.int .i64) _ _ _ 4 [.int .i64 4] from rfl) (Reps.one (show Kd.M (Kd.int .i64) _ _ _ a0_1 [.int .i64 a0_1] from rfl) (Reps.one (show Kd.M (Kd.int .i64) _ _ _ a0_2 [.int .i64 a0_2] from rfl) (Reps.one (show Kd.M (Kd.int .i64) _ _ _ a0_3 [.int .i64 a0_3] from rfl) (Reps.none _ _)))))); intro v171 w27 ho28 hb hg_ hnew_; clear hg_ hnew_; (first | rw [← Ny170.out] at ho28 | (simp only [Int.reduceToNat] at ho28; rw [← Ny170.out] at ho28)); have Q1 := Aside0.mk (Kd.R_lower ho28 (qqu (by repeat (first | (with_reducible first | exact HB.out | apply qqc | apply qqa | apply qqb | refine qqd ?_ GE168.out) | exact HB.out)))); replace Q0 := bbl Q0 hb; replace HB := bst HB hb; clear hb ho28; have hgl := (hG.below rfl HB.out).cell 24 (.bool false) rfl) | ((with_reducible refine qqs (N := 20) rfl ?_); refine Kd.R_lit (Kd.int .i64) _ 3 ?hg (N := 20) ?hd (xs := ([1, 3, 3, 2] : List Int)) (inner := [.int .i64 1, .int .i64 3, .int .i64 3, .int .i64 2]) (ok := fun _ => True) (okp := fun _ => True) ?hr ?hp (fun _ hk => hk) trivial (Below.refl _ _) (Nat.le_refl _) (by simp) ?_; (case hd => rfl); (case hg => rfl); (case hr => first | (go_simp; done) | (go_simp; rfl)); (case hp => exact (Reps.one (show Kd.M (Kd.int .i64) _ _ _ 1 [.int .i64 1] from rfl) (Reps.one (show Kd.M (Kd.int .i64) _ _ _ 3 [.int .i64 3] from rfl) (Reps.one (show Kd.M (Kd.int .i64) _ _ _ 3 [.int .i64 3] from rfl) (Reps.one (show Kd.M (Kd.int .i64) _ _ _ 2 [.int .i64 2] from rfl) (Reps.none _ _)))))); intro v174 w29 ho30 hb hg_ hnew_; clear hg_ hnew_; (first | rw [← Ny173.out] at ho30 | (simp only [Int.reduceToNat] at ho30; rw [← Ny173.out] at ho30)); have n0_ := Aside0.mk (Kd.R_elder' (by (with_reducible repeat (first | apply Kd.R_alloc | apply Kd.R_drewN | apply Kd.R_drew)); exact Q1.out) (Kd.R_base ho30) hb); have n1_ := Aside0.mk (Kd.R_lower (Kd.R_new' ho30 (Kd.R_lt (by (with_reducible repeat (first | apply Kd.R_alloc | apply Kd.R_drewN | apply Kd.R_drew)); exact Q1.out))) (qqu (by repeat (first | (with_reducible first | exact HB.out | apply qqc | apply qqa | apply qqb | refine qqd ?_ GE168.out) | exact HB.out)))); have n2_ := bbl Q0 hb; have n3_ := bst HB hb; clear Q1; clear Q0; clear HB; have Q1 := n0_; have Q2 := n1_; have Q0 := n2_; have HB := n3_; clear n0_ n1_ n2_ n3_; clear hb ho30; obtain ⟨Ao31, co31, eo31⟩ := Kd.R_slice Q1.out; subst eo31; obtain ⟨Ao32, co32, eo32⟩ := Kd.R_slice Q2.out; subst eo32; have hgl := (hG.below rfl HB.out).cell 24 (.bool false) rfl) | ((with_reducible refine qqr (f := 30) rfl ?_); refine goesL_ (some 21) rfl rfl Tryd.func30 (by kernel_rfl) rfl #[.slice Ao31 Qj.length co31, .slice Ao32 Qk.length co32] rfl (by (try simp only [List.map_toArray, List.map_cons, List.map_nil]); first | done | rfl | (simp only [List.length_drop, List.length_take]; rfl)) ?_; (with_reducible refine (octets_PutAll.calls K _ _ Qj _ _ Qk Q6 0 _ ?side1 ?side2 ?side3 ?side4 AP.out).mono ?_); (case side1 => repeat (first | exact (Kd.R_reads' Q1.out).2.2 | (with_reducible refine Kd.C_alloc ?_ _) | (with_reducible refine Kd.C_drewN ?_ _) | (with_reducible refine Kd.C_drew ?_))); (case side2 => exact (Kd.R_reads' Q1.out).2.1); (case side3 => repeat (first | exact (Kd.R_reads' Q2.out).2.2 | (with_reducible refine Kd.C_alloc ?_ _) | (with_reducible refine Kd.C_drewN ?_ _) | (with_reducible refine Kd.C_drew ?_))); (case side4 => exact (Kd.R_reads' Q2.out).2.1); rintro e w33 ⟨v178, rfl, ho0, hb⟩; refine ⟨_, rfl, ?_⟩; replace Q1 := Aside0.mk (Kd.R_below (by (with_reducible repeat (first | apply Kd.R_alloc | apply Kd.R_drewN | apply Kd.R_drew)); exact Q1.out) hb); replace Q2 := Aside0.mk (Kd.R_below (by (with_reducible repeat (first | apply Kd.R_alloc | apply Kd.R_drewN | apply Kd.R_drew)); exact Q2.out) hb); have Qb := Aside0.mk (Kd.R_lower ho0 (qqu (by repeat (first | (with_reducible first | exact HB.out | apply qqc | apply qqa | apply qqb | refine qqd ?_ GE168.out) | exact HB.out)))); replace Q0 := bbl Q0 hb; replace HB := bst HB hb; (try clear hb); (try clear hk); (try clear ho0); obtain ⟨Xw, Xx, Xy, Xz, Y0, Y1, Y2, Y3, Y4, Y5⟩ := msg_Put.cells10 Q0.out; obtain ⟨Y6, Y7, Y8, Y9, Ya, Yb, Yc, Yd, Ye, Yf⟩ := msg_Put.frozen10 Q0.out; have hgl := (hG.below rfl HB.out).cell 24 (.bool false) rfl))
 go_ret2
 exact ⟨_, by first | rfl | (simp [qqj, qqi] <;> rfl) | (simp [*, qqj, qqi] <;> rfl), by (with_reducible repeat (first | apply Kd.R_alloc | apply Kd.R_drewN | apply Kd.R_drew)); exact Qb.out, by repeat (first | (with_reducible first | exact HB.out | apply qqc | apply qqa | apply qqb | refine qqd ?_ GE168.out) | exact HB.out)⟩
set_option maxHeartbeats 8000000 in
set_option maxRecDepth 100000 in
theorem msg_Put.at5 (K : Nat) (a0_1 : Int) (a0_2 : Int) (a0_3 : Int) (a0_4 : Int) (a0_5 : Int) (a0_6 : Int) (a0_7 : Int) (a0_8 : Int) (a0_9 : Int) (w : World) (hG : Glob w) (hM : msg_May.f 5 a0_1 a0_2 a0_3 a0_4 a0_5 a0_6 a0_7 a0_8 a0_9 = some true) (Q6 : List Int) (hP : octets_PutAll.f K ([5, a0_1, a0_2, a0_3] : List Int) ([1, 3, 3, 2] : List Int) = some (Q6, 0)) :
  Calls Tryd.prog 14 #[.agg #[.int .i64 5, .int .i64 a0_1, .int .i64 a0_2, .int .i64 a0_3, .int .i64 a0_4, .int .i64 a0_5, .int .i64 a0_6, .int .i64 a0_7, .int .i64 a0_8, .int .i64 a0_9]] w fun e w' => ∃ v0_ : Value, e = .returned (.tuple #[v0_, .int .i64 (0)]) ∧ Kd.R (Kd.int .u8) 5 w' w.heap.size (fun _ => True) v0_ (Q6) ∧ Below w.heap.size w w' := by
 have hu29 := Tryd.underlying29
 have hu27 := Tryd.underlying27
 have hu48 := Tryd.underlying55
 have hu49 := Tryd.underlying56
 have HB := Aside0.mk (Below.refl w.heap.size w)
 obtain ⟨Qj, hy170⟩ : ∃ y_ : List Int, y_ = (([5, a0_1, a0_2, a0_3] : List Int)) := ⟨_, rfl⟩
 rw [← hy170] at hP
 have Ny170 := Aside0.mk hy170
 clear hy170
 obtain ⟨Qk, hy173⟩ : ∃ y_ : List Int, y_ = (([1, 3, 3, 2] : List Int)) := ⟨_, rfl⟩
 rw [← hy173] at hP
 have Ny173 := Aside0.mk hy173
 clear hy173
 have AP := Aside0.mk hP
 clear hP
 have AM := Aside0.mk hM
 clear hM
 go_enter Tryd.func14, Tryd.ntmps14
 go_wp2_with (first | ((with_reducible refine qqs (N := 1) rfl ?_); refine box_event ?hg (N := 1) ?hd (cs := #[.int .i64 5, .int .i64 a0_1, .int .i64 a0_2, .int .i64 a0_3, .int .i64 a0_4, .int .i64 a0_5, .int .i64 a0_6, .int .i64 a0_7, .int .i64 a0_8, .int .i64 a0_9]) (t := 29) ?hr ?_; (case hd => rfl); (case hg => rfl); (case hr => first | (go_simp; done) | (go_simp; rfl)); intro Yg hg w23 hbox hb; have n0_ := bst HB hb; have n1_ := Aside0.mk (hbox); have n2_ := szl HB hg; have n3_ := szl HB hg; clear HB; have HB := n0_; have Q0 := n1_; have Ym := n2_; have GE168 := n3_; clear n0_ n1_ n2_ n3_; clear hb hbox hg; obtain ⟨Qr, Qs, Qt, Qu, Qv, Qw, Qx, Qy, Qz, X0⟩ := msg_Put.cells10 Q0.out; obtain ⟨X1, X2, X3, X4, X5, X6, X7, X8, X9, Xa⟩ := msg_Put.frozen10 Q0.out; have hgl := (hG.below rfl HB.out).cell 29 (.bool false) rfl) | ((with_reducible refine qqr (f := 15) rfl ?_); refine goesL_ (some 8) rfl rfl Tryd.func15 (by kernel_rfl) rfl #[.agg #[.int .i64 5, .int .i64 a0_1, .int .i64 a0_2, .int .i64 a0_3, .int .i64 a0_4, .int .i64 a0_5, .int .i64 a0_6, .int .i64 a0_7, .int .i64 a0_8, .int .i64 a0_9]] rfl (by (try simp only [List.map_toArray, List.map_cons, List.map_nil]); first | done | rfl | (simp only [List.length_drop, List.length_take]; rfl)) ?_; (with_reducible refine (msg_May.calls 5 a0_1 a0_2 a0_3 a0_4 a0_5 a0_6 a0_7 a0_8 a0_9 true _ (hG.below rfl HB.out) AM.out).mono ?_); rintro e w25 ⟨rfl, hb⟩; refine ⟨_, rfl, ?_⟩; replace Q0 := bbl Q0 hb; replace HB := bst HB hb; (try clear hb); (try clear hk); obtain ⟨Xb, Xc, Xd, Xe, Xf, Xg, Xh, Xi, Xj, Xk⟩ := msg_Put.cells10 Q0.out; obtain ⟨Xm, Xn, Xo, Xp, Xq, Xr, Xs, Xt, Xu, Xv⟩ := msg_Put.frozen10 Q0.out; have hgl := (hG.below rfl HB.out).cell 29 (.bool false) rfl) | ((with_reducible refine qqs (N := 19) rfl ?_); refine Kd.R_lit (Kd.int .i64) _ 3 ?hg (N := 19) ?hd (xs := ([5, a0_1, a0_2, a0_3] : List Int)) (inner := [.int .i64 5, .int .i64 a0_1, .int .i64 a0_2, .int .i64 a0_3]) (ok := fun _ => True) (okp := fun _ => True) ?hr ?hp (fun _ hk => hk) trivial (Below.refl _ _) (Nat.le_refl _) (by simp) ?_; (case hd => rfl); (case hg => rfl); (case hr => first | (go_simp; done) | (go_simp; rfl)); (case hp => exact (Reps.one (show Kd.M (Kd.int .i64) _ _ _ 5 [.int .i64 5] from rfl) (Reps.one (show Kd.M (Kd.int .i64) _ _ _ a0_1 [.int .i64 a0_1] from rfl) (Reps.one (show Kd.M (Kd.int .i64) _ _ _ a0_2 [.int .i64 a0_2] from rfl) (Reps.one (show Kd.M (Kd.int .i64) _ _ _ a0_3 [.int .i64 a0_3] from rfl) (Reps.none _ _)))))); intro v171 w27 ho28 hb hg_ hnew_; clear hg_ hnew_; (first | rw [← Ny170.out] at ho28 | (simp only [Int.reduceToNat] at ho28; rw [← Ny170.out] at ho28)); have Q1 := Aside0.mk (Kd.R_lower ho28 (qqu (by repeat (first | (with_reducible first | exact HB.out | apply qqc | apply qqa | apply qqb | refine qqd ?_ GE168.out) | exact HB.out)))); replace Q0 := bbl Q0 hb; replace HB := bst HB hb; clear hb ho28; have hgl := (hG.below rfl HB.out).cell 29 (.bool false) rfl) | ((with_reducible refine qqs (N := 20) rfl ?_); refine Kd.R_lit (Kd.int .i64) _ 3 ?hg (N := 20) ?hd (xs := ([1, 3, 3, 2] : List Int)) (inner := [.int .i64 1, .int .i64 3, .int .i64 3, .int .i64 2]) (ok := fun _ => True) (okp := fun _ => True) ?hr ?hp (fun _ hk => hk) trivial (Below.refl _ _) (Nat.le_refl _) (by simp) ?_; (case hd => rfl); (case hg => rfl); (case hr => first | (go_simp; done) | (go_simp; rfl)); (case hp => exact (Reps.one (show Kd.M (Kd.int .i64) _ _ _ 1 [.int .i64 1] from rfl) (Reps.one (show Kd.M (Kd.int .i64) _ _ _ 3 [.int .i64 3] from rfl) (Reps.one (show Kd.M (Kd.int .i64) _ _ _ 3 [.int .i64 3] from rfl) (Reps.one (show Kd.M (Kd.int .i64) _ _ _ 2 [.int .i64 2] from rfl) (Reps.none _ _)))))); intro v174 w29 ho30 hb hg_ hnew_; clear hg_ hnew_; (first | rw [← Ny173.out] at ho30 | (simp only [Int.reduceToNat] at ho30; rw [← Ny173.out] at ho30)); have n0_ := Aside0.mk (Kd.R_elder' (by (with_reducible repeat (first | apply Kd.R_alloc | apply Kd.R_drewN | apply Kd.R_drew)); exact Q1.out) (Kd.R_base ho30) hb); have n1_ := Aside0.mk (Kd.R_lower (Kd.R_new' ho30 (Kd.R_lt (by (with_reducible repeat (first | apply Kd.R_alloc | apply Kd.R_drewN | apply Kd.R_drew)); exact Q1.out))) (qqu (by repeat (first | (with_reducible first | exact HB.out | apply qqc | apply qqa | apply qqb | refine qqd ?_ GE168.out) | exact HB.out)))); have n2_ := bbl Q0 hb; have n3_ := bst HB hb; clear Q1; clear Q0; clear HB; have Q1 := n0_; have Q2 := n1_; have Q0 := n2_; have HB := n3_; clear n0_ n1_ n2_ n3_; clear hb ho30; obtain ⟨Ao31, co31, eo31⟩ := Kd.R_slice Q1.out; subst eo31; obtain ⟨Ao32, co32, eo32⟩ := Kd.R_slice Q2.out; subst eo32; have hgl := (hG.below rfl HB.out).cell 29 (.bool false) rfl) | ((with_reducible refine qqr (f := 30) rfl ?_); refine goesL_ (some 21) rfl rfl Tryd.func30 (by kernel_rfl) rfl #[.slice Ao31 Qj.length co31, .slice Ao32 Qk.length co32] rfl (by (try simp only [List.map_toArray, List.map_cons, List.map_nil]); first | done | rfl | (simp only [List.length_drop, List.length_take]; rfl)) ?_; (with_reducible refine (octets_PutAll.calls K _ _ Qj _ _ Qk Q6 0 _ ?side1 ?side2 ?side3 ?side4 AP.out).mono ?_); (case side1 => repeat (first | exact (Kd.R_reads' Q1.out).2.2 | (with_reducible refine Kd.C_alloc ?_ _) | (with_reducible refine Kd.C_drewN ?_ _) | (with_reducible refine Kd.C_drew ?_))); (case side2 => exact (Kd.R_reads' Q1.out).2.1); (case side3 => repeat (first | exact (Kd.R_reads' Q2.out).2.2 | (with_reducible refine Kd.C_alloc ?_ _) | (with_reducible refine Kd.C_drewN ?_ _) | (with_reducible refine Kd.C_drew ?_))); (case side4 => exact (Kd.R_reads' Q2.out).2.1); rintro e w33 ⟨v178, rfl, ho0, hb⟩; refine ⟨_, rfl, ?_⟩; replace Q1 := Aside0.mk (Kd.R_below (by (with_reducible repeat (first | apply Kd.R_alloc | apply Kd.R_drewN | apply Kd.R_drew)); exact Q1.out) hb); replace Q2 := Aside0.mk (Kd.R_below (by (with_reducible repeat (first | apply Kd.R_alloc | apply Kd.R_drewN | apply Kd.R_drew)); exact Q2.out) hb); have Qb := Aside0.mk (Kd.R_lower ho0 (qqu (by repeat (first | (with_reducible first | exact HB.out | apply qqc | apply qqa | apply qqb | refine qqd ?_ GE168.out) | exact HB.out)))); replace Q0 := bbl Q0 hb; replace HB := bst HB hb; (try clear hb); (try clear hk); (try clear ho0); obtain ⟨Xw, Xx, Xy, Xz, Y0, Y1, Y2, Y3, Y4, Y5⟩ := msg_Put.cells10 Q0.out; obtain ⟨Y6, Y7, Y8, Y9, Ya, Yb, Yc, Yd, Ye, Yf⟩ := msg_Put.frozen10 Q0.out; have hgl := (hG.below rfl HB.out).cell 29 (.bool false) rfl))
 go_ret2
 exact ⟨_, by first | rfl | (simp [qqj, qqi] <;> rfl) | (simp [*, qqj, qqi] <;> rfl), by (with_reducible repeat (first | apply Kd.R_alloc | apply Kd.R_drewN | apply Kd.R_drew)); exact Qb.out, by repeat (first | (with_reducible first | exact HB.out | apply qqc | apply qqa | apply qqb | refine qqd ?_ GE168.out) | exact HB.out)⟩
set_option maxHeartbeats 8000000 in
set_option maxRecDepth 100000 in
theorem msg_Put.calls (k : Nat) (a0_0 : Int) (a0_1 : Int) (a0_2 : Int) (a0_3 : Int) (a0_4 : Int) (a0_5 : Int) (a0_6 : Int) (a0_7 : Int) (a0_8 : Int) (a0_9 : Int) (r1 : List Int) (r2 : Int) (w : World) (hG : Glob w) (h : msg_Put.f k a0_0 a0_1 a0_2 a0_3 a0_4 a0_5 a0_6 a0_7 a0_8 a0_9 = some (r1, r2)) :
  Calls Tryd.prog 14 #[.agg #[.int .i64 a0_0, .int .i64 a0_1, .int .i64 a0_2, .int .i64 a0_3, .int .i64 a0_4, .int .i64 a0_5, .int .i64 a0_6, .int .i64 a0_7, .int .i64 a0_8, .int .i64 a0_9]] w fun e w' => ∃ v0_ : Value, e = .returned (.tuple #[v0_, .int .i64 r2]) ∧ Kd.R (Kd.int .u8) 5 w' w.heap.size (fun _ => True) v0_ r1 ∧ Below w.heap.size w w' := by
 unfold msg_Put.f at h
 obtain ⟨tm, hM, h5⟩ := Option.bind_eq_some_iff.mp h
 clear h
 by_cases c1 : tm = true
 ·rw [if_pos c1] at h5
  subst c1
  obtain ⟨⟨Q6, Yh⟩, hP, h6⟩ := Option.bind_eq_some_iff.mp h5
  clear h5
  have h : (if Yh = 0 then (if a0_0 = 2 then ((rule_Put.f k a0_4 a0_5 a0_6 a0_7 a0_8 a0_9).bind fun bt2 => (if Q6.length + bt2.1.length < 140737488355328 then (some (Q6 ++ bt2.1, bt2.2)) else (none))) else (some (Q6, Yh))) else (some (Q6, Yh))) = some (r1, r2) := h6
  clear h6
  by_cases c2 : Yh = 0
  ·rw [if_pos c2] at h
   subst c2
   by_cases c3 : a0_0 = 2
   ·rw [if_pos c3] at h
    subst c3
    obtain ⟨⟨Yi, t183⟩, hR, h7⟩ := Option.bind_eq_some_iff.mp h
    clear h
    have h : (if Q6.length + Yi.length < 140737488355328 then (some (Q6 ++ Yi, t183)) else (none)) = some (r1, r2) := h7
    clear h7
    by_cases c4 : Q6.length + Yi.length < 140737488355328
    ·rw [if_pos c4] at h
     simp only [Option.some.injEq, Prod.mk.injEq] at h
     obtain ⟨rfl, rfl⟩ := h
     exact msg_Put.at2 k a0_1 a0_2 a0_3 a0_4 a0_5 a0_6 a0_7 a0_8 a0_9 w hG hM Q6 hP Yi t183 hR c4
    ·rw [if_neg c4] at h
     exact absurd h (by simp)
   ·rw [if_neg c3] at h
    simp only [Option.some.injEq, Prod.mk.injEq] at h
    obtain ⟨rfl, rfl⟩ := h
    have hk : a0_0 = 0 ∨ a0_0 = 1 ∨ a0_0 = 3 ∨ a0_0 = 4 ∨ a0_0 = 5 := by
     have hM' := hM
     unfold msg_May.f at hM'
     by_cases d1 : a0_0 < 0
     ·rw [if_pos d1] at hM'; exact absurd hM' (by decide)
     ·by_cases d2 : a0_0 ≥ 6
      ·rw [if_neg d1, if_pos d2] at hM'; exact absurd hM' (by decide)
      ·omega
    rcases hk with rfl | rfl | rfl | rfl | rfl
    ·exact msg_Put.at0 k a0_1 a0_2 a0_3 a0_4 a0_5 a0_6 a0_7 a0_8 a0_9 w hG hM Q6 hP
    ·exact msg_Put.at1 k a0_1 a0_2 a0_3 a0_4 a0_5 a0_6 a0_7 a0_8 a0_9 w hG hM Q6 hP
    ·exact msg_Put.at3 k a0_1 a0_2 a0_3 a0_4 a0_5 a0_6 a0_7 a0_8 a0_9 w hG hM Q6 hP
    ·exact msg_Put.at4 k a0_1 a0_2 a0_3 a0_4 a0_5 a0_6 a0_7 a0_8 a0_9 w hG hM Q6 hP
    ·exact msg_Put.at5 k a0_1 a0_2 a0_3 a0_4 a0_5 a0_6 a0_7 a0_8 a0_9 w hG hM Q6 hP
  ·rw [if_neg c2] at h
   simp only [Option.some.injEq, Prod.mk.injEq] at h
   obtain ⟨rfl, rfl⟩ := h
   exact msg_Put.bad k a0_0 a0_1 a0_2 a0_3 a0_4 a0_5 a0_6 a0_7 a0_8 a0_9 w hG hM Q6 Yh hP c2
 ·rw [if_neg c1] at h5
  have h := h5
  clear h5
  have c1' : tm = false := by simpa using c1
  subst c1'
  simp only [Option.some.injEq, Prod.mk.injEq] at h
  obtain ⟨rfl, rfl⟩ := h
  exact msg_Put.no k a0_0 a0_1 a0_2 a0_3 a0_4 a0_5 a0_6 a0_7 a0_8 a0_9 w hG hM
namespace OM
def SP : Bool → List Int → Int
 | _, [] => 0
 | true, a :: t => 256 * a + SP false t
 | false, a :: t => a + SP true t
def par (p : Bool) : List Int → Bool
 | [] => p
 | _ :: t => par (!p) t
theorem SP_append (p : Bool) (l m : List Int) : SP p (l ++ m) = SP p l + SP (par p l) m := by
 induction l generalizing p with
 | nil => simp [SP, par]
 | cons a t ih => cases p <;> simp [SP, par, ih, Int.add_assoc]
theorem par_len (p : Bool) (l : List Int) : par p l = if l.length % 2 = 0 then p else !p := by
 induction l generalizing p with
 | nil => simp [par]
 | cons a t ih =>
  rw [par, ih]
  have : (a :: t).length % 2 = 0 ↔ ¬ t.length % 2 = 0 := by simp only [List.length_cons]; omega
  by_cases h : t.length % 2 = 0
  ·rw [if_pos h, if_neg (by rw [this]; exact fun k => k h)]
  ·rw [if_neg h, if_pos (this.mpr h), Bool.not_not]
theorem SP_nonneg (p : Bool) (l : List Int) (h : ∀ x ∈ l, 0 ≤ x ∧ x ≤ 255) : 0 ≤ SP p l ∧ SP p l ≤ 65280 * l.length := by
 induction l generalizing p with
 | nil => simp [SP]
 | cons a t ih =>
  have h1 := h a (by simp)
  have h2 := ih (!p) (fun x hx => h x (by simp [hx]))
  cases p <;> simp [SP] at h2 ⊢ <;> omega
def F (n : Int) : Int := if n = 0 then 0 else (n - 1) % 65535 + 1
theorem F_small (n : Int) (h0 : 0 ≤ n) (h : n ≤ 65535) : F n = n := by unfold F; split <;> omega
theorem F_step (n : Int) (_h : 65535 < n) : F (n / 65536 + n % 65536) = F n := by
 unfold F
 rw [if_neg (by omega), if_neg (by omega)]
 omega
def ck (l : List Int) : Int := 65535 - F (SP true l)
theorem ck_zero_iff (l : List Int) (h : ∀ x ∈ l, 0 ≤ x ∧ x ≤ 255) : ck l = 0 ↔ SP true l % 65535 = 0 ∧ 0 < SP true l := by
 have := SP_nonneg true l h
 unfold ck F
 split <;> omega
end OM
theorem OM.SP_take (l : List Int) (k : Nat) (h : k < l.length) : OM.SP true (l.take (k + 1)) = OM.SP true (l.take k) + (if k % 2 = 0 then 256 * rd l k else rd l k) := by
 rw [List.take_succ_eq_append_getElem h, OM.SP_append, OM.par_len, List.length_take, Nat.min_eq_left (by omega)]
 have e : rd l (k : Int) = l[k] := by simp [rd, List.getD, h]
 rw [e]
 by_cases hk : k % 2 = 0
 ·simp [hk, OM.SP]
 ·simp [hk, OM.SP]
theorem OM.rd_range (l : List Int) (k : Nat) (h : k < l.length) (hb : ∀ x ∈ l, 0 ≤ x ∧ x ≤ 255) : 0 ≤ rd l k ∧ rd l k ≤ 255 := by
 have e : rd l (k : Int) = l[k] := by simp [rd, List.getD, h]
 rw [e]; exact hb _ (List.getElem_mem h)
theorem OM.SP_range (l : List Int) (k : Nat) (hl : l.length < 1099511627776) (hb : ∀ x ∈ l, 0 ≤ x ∧ x ≤ 255) : 0 ≤ OM.SP true (l.take k) ∧ OM.SP true (l.take k) ≤ 72057594037927936 := by
 have h := OM.SP_nonneg true (l.take k) (fun x hx => hb x (List.mem_of_mem_take hx))
 have := List.length_take_le k l
 have h2 : (l.take k).length ≤ l.length := by rw [List.length_take]; omega
 refine ⟨h.1, Int.le_trans h.2 ?_⟩
 omega
theorem OM.and16 (s : Int) (h0 : 0 ≤ s) (h1 : s ≤ 72057594037927936) : Go.bits .and .i64 s 65535 = s % 65536 :=
 Go.bits_mask .i64 62 (by decide) (fun n h0 h1 => by rw [Go.IntKind.wrap_i64]; omega) 16 (by decide) s h0 (by omega)
set_option maxHeartbeats 1000000 in
set_option maxRecDepth 100000 in
theorem octets_Sum.t (A0 : Option Addr) (c0 : Nat) (l0 : List Int) (w : World) (hr0 : Kd.C (Kd.int .u8) w A0 l0.length l0) (hc0 : l0.length ≤ c0) (hl : l0.length < 1099511627776) (hb : ∀ x ∈ l0, 0 ≤ x ∧ x ≤ 255) :
  Calls Tryd.prog 16 #[.slice A0 l0.length c0] w fun e w' => e = .returned (.int .i64 (OM.ck l0)) ∧ w = w' := by
 have HR0 := Aside0.mk hr0
 have HBD := Aside0.mk hb
 clear hr0 hb
 go_enter Tryd.func16, Tryd.ntmps16
 go_wp2
 refine wp_scope_jumps 0 (fun a' w' => w = w' ∧ ∃ (m : Int) (u1 u2_ u4 u5 u6 u7 u8 u9 u10 u11 u12 u13 u14 u15 u16 u17 u18 u19 u20 u21 u22 u23 u24 u25 u26 u27 u28 u29 u30 u31 : Value), a' = { tmps := #[.slice A0 l0.length c0, u1, u2_, Value.int .i64 m, u4, u5, u6, u7, u8, u9, u10, u11, u12, u13, u14, u15, u16, u17, u18, u19, u20, u21, u22, u23, u24, u25, u26, u27, u28, u29, u30, u31], defers := [] } ∧ Aside0 (OM.F m = OM.F (OM.SP true l0)) ∧ 0 ≤ m ∧ m ≤ 72057594037927936) (fun a' _ => (intOf (a'.tmps.getD 3 undef)).toNat) rfl ?_ ?_
 ·go_wp2
  go_loop [3, 8] (fun n i => ∃ k : Nat, k ≤ l0.length ∧ i = .int .i64 k ∧ n = .int .i64 (OM.SP true (l0.take k))) (fun _ i => l0.length - (intOf i).toNat)
  case atStart => exact ⟨0, Nat.zero_le _, rfl, rfl⟩
  case round =>
   obtain ⟨k, hk, rfl, rfl⟩ := hrel
   by_cases hlt : k < l0.length
   ·obtain ⟨ad, e, hx⟩ := Kd.at_int HR0.out k (by omega) (by omega)
    cases e
    rw [Int.toNat_natCast] at hx
    obtain ⟨s1, s2⟩ := OM.SP_range l0 k hl HBD.out
    obtain ⟨r1, r2⟩ := OM.rd_range l0 k hlt HBD.out
    have hn := OM.SP_take l0 k hlt
    generalize OM.SP true (l0.take k) = s at hn s1 s2 ⊢
    generalize rd l0 k = c at hn r1 r2 hx ⊢
    by_cases hp : k % 2 = 0
    ·have hp1 : ((k : Int) + 1) % 2 = 1 := by omega
     rw [if_pos hp] at hn
     have hn := Aside0.mk hn
     clear hp
     go_wp2
     exact ⟨⟨k + 1, by omega, rfl, by rw [hn.out, Int.mul_comm c 256]⟩, by simp [intOf]; omega⟩
    ·have hp1 : ((k : Int) + 1) % 2 = 0 := by omega
     rw [if_neg hp] at hn
     have hn := Aside0.mk hn
     clear hp
     go_wp2
     exact ⟨⟨k + 1, by omega, rfl, by rw [hn.out]⟩, by simp [intOf]; omega⟩
   ·obtain ⟨s1, s2⟩ := OM.SP_range l0 k hl HBD.out
    have hn : l0.take k = l0 := List.take_of_length_le (by omega)
    rw [hn] at s1 s2 ⊢
    clear hn
    have hF := OM.F_step (OM.SP true l0)
    have hS := OM.F_small (OM.SP true l0) s1
    have hck : OM.ck l0 = 65535 - OM.F (OM.SP true l0) := rfl
    generalize hsp : OM.SP true l0 = s at hF hS hck s1 s2 ⊢
    have hsp := Aside0.mk hsp
    have hF := Aside0.mk hF
    have hS := Aside0.mk hS
    have hck := Aside0.mk hck
    go_wp2
    go_step3
    have eb := OM.and16 s s1 s2
    by_cases hgt : 65535 < s
    ·go_wp2
     go_step3
     refine ⟨rfl, rfl, _, _, _, _, _, _, _, _, _, _, _, _, _, _, _, _, _, _, _, _, _, _, _, _, _, _, _, _, _, _, _, rfl, ⟨(hF.out hgt).trans (by rw [hsp.out])⟩, by omega, by omega⟩
    ·go_wp2
     simp only [Exit.jump]
     go_ret
     exact ⟨by rw [hck.out, hS.out (by omega)]; rfl, rfl⟩
 ·rintro a' w' ⟨rfl, m, u1, u2_, u4, u5, u6, u7, u8, u9, u10, u11, u12, u13, u14, u15, u16, u17, u18, u19, u20, u21, u22, u23, u24, u25, u26, u27, u28, u29, u30, u31, rfl, hF, h0, h1⟩
  have eb := OM.and16 m h0 h1
  by_cases hgt : 65535 < m
  ·go_wp2
   go_step3
   refine ⟨rfl, ⟨rfl, _, _, _, _, _, _, _, _, _, _, _, _, _, _, _, _, _, _, _, _, _, _, _, _, _, _, _, _, _, _, _, rfl, ⟨(OM.F_step m hgt).trans hF.out⟩, by omega, by omega⟩, ?_⟩
   simp [intOf]
   omega
  ·go_wp2
   simp only [Exit.jump]
   go_ret
   exact ⟨by rw [show OM.ck l0 = 65535 - m from by unfold OM.ck; rw [← hF.out, OM.F_small m h0 (by omega)]]; rfl, rfl⟩
def octets_Sum.f (l0 : List Int) : Option (Int) := if l0.length < 1099511627776 then (if (l0.all fun x => decide (0 ≤ x) && decide (x ≤ 255)) = true then some (OM.ck l0) else none) else none
theorem octets_Sum.calls (A0 : Option Addr) (c0 : Nat) (l0 : List Int) (r : Int) (w : World) (hr0 : Kd.C (Kd.int .u8) w A0 l0.length l0) (hc0 : l0.length ≤ c0) (h : octets_Sum.f l0 = some r) :
  Calls Tryd.prog 16 #[.slice A0 l0.length c0] w fun e w' => e = .returned (.int .i64 r) ∧ Drawn0 w w' := by
 unfold octets_Sum.f at h
 by_cases h1 : l0.length < 1099511627776
 ·rw [if_pos h1] at h
  by_cases h2 : (l0.all fun x => decide (0 ≤ x) && decide (x ≤ 255)) = true
  ·rw [if_pos h2] at h
   obtain rfl := Option.some.inj h
   refine (octets_Sum.t A0 c0 l0 w hr0 hc0 h1 (fun x hx => by simpa using List.all_eq_true.mp h2 x hx)).mono ?_
   rintro e w' ⟨rfl, rfl⟩
   exact ⟨rfl, Drawn0.refl _⟩
  ·rw [if_neg h2] at h
   exact absurd h (by simp)
 ·rw [if_neg h1] at h
  exact absurd h (by simp)
def frame_Seal.f (k : Nat) (a0_0 : Int) (a0_1 : Int) (a0_2 : Int) (a0_3 : Int) (a0_4 : Int) (a0_5 : Int) (a0_6 : Int) (a0_7 : Int) (a0_8 : Int) (a0_9 : Int) : Option (List Int × Int) := (msg_Put.f k a0_0 a0_1 a0_2 a0_3 a0_4 a0_5 a0_6 a0_7 a0_8 a0_9).bind fun Qm => (if Qm.2 = 0 then ((some (([197, ((Qm.1.length : Int)) % 256] : List Int) : List Int)).bind fun Qq => (if Qq.length + Qm.1.length < 140737488355328 then ((some (Qq ++ Qm.1 : List Int)).bind fun Q7 => (if ((Qm.1.length : Int) % 2) = 1 then (if Q7.length < 140737488355328 then ((some (Q7 ++ [0] : List Int)).bind fun Qa => ((octets_Sum.f Qa).bind fun Qc => ((some (([(Qc / 256) % 256, (Qc) % 256] : List Int) : List Int)).bind fun Qd => (if Qa.length + Qd.length < 140737488355328 then (some ((Qa ++ Qd), 0)) else (none))))) else (none)) else ((octets_Sum.f Q7).bind fun Qe => ((some (([(Qe / 256) % 256, (Qe) % 256] : List Int) : List Int)).bind fun Qf => (if Q7.length + Qf.length < 140737488355328 then (some ((Q7 ++ Qf), 0)) else (none)))))) else (none))) else (some (([] : List Int), Qm.2)))
theorem frame_Seal.mono : ∀ a0 a1 a2 a3 a4 a5 a6 a7 a8 a9 k, LeO (frame_Seal.f k a0 a1 a2 a3 a4 a5 a6 a7 a8 a9) (frame_Seal.f (k + 1) a0 a1 a2 a3 a4 a5 a6 a7 a8 a9) := by
 intro a0 a1 a2 a3 a4 a5 a6 a7 a8 a9 k
 unfold frame_Seal.f
 repeat' first
   | (with_reducible exact msg_Put.mono _ _ _ _ _ _ _ _ _ _ _)
   | (with_reducible exact LeO.refl _)
   | (with_reducible exact LeO.none _)
   | (with_reducible refine LeO.ite ?_ ?_)
   | (with_reducible refine LeO.bind ?_ (fun _ => ?_))
   | exact msg_Put.mono _ _ _ _ _ _ _ _ _ _ _
   | exact LeO.none _
   | refine LeO.ite ?_ ?_
   | refine LeO.bind ?_ (fun _ => ?_)
set_option maxHeartbeats 8000000 in
set_option maxRecDepth 100000 in
theorem frame_Seal.calls (k : Nat) (a0_0 : Int) (a0_1 : Int) (a0_2 : Int) (a0_3 : Int) (a0_4 : Int) (a0_5 : Int) (a0_6 : Int) (a0_7 : Int) (a0_8 : Int) (a0_9 : Int) (r1 : List Int) (r2 : Int) (w : World) (hG : Glob w) (h : frame_Seal.f k a0_0 a0_1 a0_2 a0_3 a0_4 a0_5 a0_6 a0_7 a0_8 a0_9 = some (r1, r2)) :
  Calls Tryd.prog 10 #[.agg #[.int .i64 a0_0, .int .i64 a0_1, .int .i64 a0_2, .int .i64 a0_3, .int .i64 a0_4, .int .i64 a0_5, .int .i64 a0_6, .int .i64 a0_7, .int .i64 a0_8, .int .i64 a0_9]] w fun e w' => ∃ v0_ : Value, e = .returned (.tuple #[v0_, .int .i64 r2]) ∧ Kd.R (Kd.int .u8) 5 w' w.heap.size (fun _ => True) v0_ r1 ∧ Below w.heap.size w w' := by
 have hu29 := Tryd.underlying29
 have HB := Aside0.mk (Below.refl w.heap.size w)
 have H : ((msg_Put.f k a0_0 a0_1 a0_2 a0_3 a0_4 a0_5 a0_6 a0_7 a0_8 a0_9).bind fun Qm => (if Qm.2 = 0 then ((some (([197, ((Qm.1.length : Int)) % 256] : List Int) : List Int)).bind fun Qq => (if Qq.length + Qm.1.length < 140737488355328 then ((some (Qq ++ Qm.1 : List Int)).bind fun Q7 => (if ((Qm.1.length : Int) % 2) = 1 then (if Q7.length < 140737488355328 then ((some (Q7 ++ [0] : List Int)).bind fun Qa => ((octets_Sum.f Qa).bind fun Qc => ((some (([(Qc / 256) % 256, (Qc) % 256] : List Int) : List Int)).bind fun Qd => (if Qa.length + Qd.length < 140737488355328 then (some ((Qa ++ Qd), 0)) else (none))))) else (none)) else ((octets_Sum.f Q7).bind fun Qe => ((some (([(Qe / 256) % 256, (Qe) % 256] : List Int) : List Int)).bind fun Qf => (if Q7.length + Qf.length < 140737488355328 then (some ((Q7 ++ Qf), 0)) else (none)))))) else (none))) else (some (([] : List Int), Qm.2)))) = some (r1, r2) := h
 clear h
 replace H := Option.bind_eq_some_iff.mp H
 obtain ⟨⟨Q8, t138⟩, A20, H⟩ := H
 replace H : (if t138 = 0 then ((some (([197, ((Q8.length : Int)) % 256] : List Int) : List Int)).bind fun Qq => (if Qq.length + Q8.length < 140737488355328 then ((some (Qq ++ Q8 : List Int)).bind fun Q7 => (if ((Q8.length : Int) % 2) = 1 then (if Q7.length < 140737488355328 then ((some (Q7 ++ [0] : List Int)).bind fun Qa => ((octets_Sum.f Qa).bind fun Qc => ((some (([(Qc / 256) % 256, (Qc) % 256] : List Int) : List Int)).bind fun Qd => (if Qa.length + Qd.length < 140737488355328 then (some ((Qa ++ Qd), 0)) else (none))))) else (none)) else ((octets_Sum.f Q7).bind fun Qe => ((some (([(Qe / 256) % 256, (Qe) % 256] : List Int) : List Int)).bind fun Qf => (if Q7.length + Qf.length < 140737488355328 then (some ((Q7 ++ Qf), 0)) else (none)))))) else (none))) else (some (([] : List Int), t138))) = some (r1, r2) := H
 have A2 := Aside0.mk A20
 clear A20
 by_cases c3 : t138 = 0
 ·rw [if_pos c3] at H
  have c3b0 : (t138 == 0) = true := beq_iff_eq.mpr c3
  have c3b1 : (t138 != 0) = false := bne_eq_false_iff_eq.mpr c3
  clear c3
  obtain ⟨Qq, hy139⟩ : ∃ y_ : List Int, y_ = (([197, ((Q8.length : Int)) % 256] : List Int)) := ⟨_, rfl⟩
  replace H : (if Qq.length + Q8.length < 140737488355328 then ((some (Qq ++ Q8 : List Int)).bind fun Q7 => (if ((Q8.length : Int) % 2) = 1 then (if Q7.length < 140737488355328 then ((some (Q7 ++ [0] : List Int)).bind fun Qa => ((octets_Sum.f Qa).bind fun Qc => ((some (([(Qc / 256) % 256, (Qc) % 256] : List Int) : List Int)).bind fun Qd => (if Qa.length + Qd.length < 140737488355328 then (some ((Qa ++ Qd), 0)) else (none))))) else (none)) else ((octets_Sum.f Q7).bind fun Qe => ((some (([(Qe / 256) % 256, (Qe) % 256] : List Int) : List Int)).bind fun Qf => (if Q7.length + Qf.length < 140737488355328 then (some ((Q7 ++ Qf), 0)) else (none)))))) else (none)) = some (r1, r2) := by first | (rw [hy139]; with_reducible exact H) | (have H2_ := (Option.bind_some _ _).symm.trans H; rw [hy139]; with_reducible exact H2_) | (have H2_ := (Option.bind_some _ _).symm.trans H; with_reducible exact H2_) | with_reducible exact H | (rw [hy139]; exact H) | exact H
  have Ny139 := Aside0.mk hy139
  clear hy139
  by_cases c4 : Qq.length + Q8.length < 140737488355328
  ·rw [if_pos c4] at H
   have LMc4 := Aside0.mk c4
   clear c4
   obtain ⟨Q7, hy142⟩ : ∃ y_ : List Int, y_ = (Qq ++ Q8) := ⟨_, rfl⟩
   replace H : (if ((Q8.length : Int) % 2) = 1 then (if Q7.length < 140737488355328 then ((some (Q7 ++ [0] : List Int)).bind fun Qa => ((octets_Sum.f Qa).bind fun Qc => ((some (([(Qc / 256) % 256, (Qc) % 256] : List Int) : List Int)).bind fun Qd => (if Qa.length + Qd.length < 140737488355328 then (some ((Qa ++ Qd), 0)) else (none))))) else (none)) else ((octets_Sum.f Q7).bind fun Qe => ((some (([(Qe / 256) % 256, (Qe) % 256] : List Int) : List Int)).bind fun Qf => (if Q7.length + Qf.length < 140737488355328 then (some ((Q7 ++ Qf), 0)) else (none))))) = some (r1, r2) := by first | (rw [hy142]; with_reducible exact H) | (have H2_ := (Option.bind_some _ _).symm.trans H; rw [hy142]; with_reducible exact H2_) | (have H2_ := (Option.bind_some _ _).symm.trans H; with_reducible exact H2_) | with_reducible exact H | (rw [hy142]; exact H) | exact H
   have Ny142 := Aside0.mk hy142
   clear hy142
   by_cases c5 : ((Q8.length : Int) % 2) = 1
   ·rw [if_pos c5] at H
    have c5b0 : (((Q8.length : Int) % 2) == 1) = true := beq_iff_eq.mpr c5
    have c5b1 : (((Q8.length : Int) % 2) != 1) = false := bne_eq_false_iff_eq.mpr c5
    clear c5
    by_cases c6 : Q7.length < 140737488355328
    ·rw [if_pos c6] at H
     have LMc6 := Aside0.mk c6
     clear c6
     obtain ⟨Qa, hy145⟩ : ∃ y_ : List Int, y_ = (Q7 ++ [0]) := ⟨_, rfl⟩
     replace H : ((octets_Sum.f Qa).bind fun Qc => ((some (([(Qc / 256) % 256, (Qc) % 256] : List Int) : List Int)).bind fun Qd => (if Qa.length + Qd.length < 140737488355328 then (some ((Qa ++ Qd), 0)) else (none)))) = some (r1, r2) := by first | (rw [hy145]; with_reducible exact H) | (have H2_ := (Option.bind_some _ _).symm.trans H; rw [hy145]; with_reducible exact H2_) | (have H2_ := (Option.bind_some _ _).symm.trans H; with_reducible exact H2_) | with_reducible exact H | (rw [hy145]; exact H) | exact H
     have Ny145 := Aside0.mk hy145
     clear hy145
     replace H := Option.bind_eq_some_iff.mp H
     obtain ⟨Qc, A70, H⟩ := H
     replace H : ((some (([(Qc / 256) % 256, (Qc) % 256] : List Int) : List Int)).bind fun Qd => (if Qa.length + Qd.length < 140737488355328 then (some ((Qa ++ Qd), 0)) else (none))) = some (r1, r2) := H
     have A7 := Aside0.mk A70
     clear A70
     obtain ⟨Qd, hy149⟩ : ∃ y_ : List Int, y_ = (([(Qc / 256) % 256, (Qc) % 256] : List Int)) := ⟨_, rfl⟩
     replace H : (if Qa.length + Qd.length < 140737488355328 then (some ((Qa ++ Qd), 0)) else (none)) = some (r1, r2) := by first | (rw [hy149]; with_reducible exact H) | (have H2_ := (Option.bind_some _ _).symm.trans H; rw [hy149]; with_reducible exact H2_) | (have H2_ := (Option.bind_some _ _).symm.trans H; with_reducible exact H2_) | with_reducible exact H | (rw [hy149]; exact H) | exact H
     have Ny149 := Aside0.mk hy149
     clear hy149
     by_cases c8 : Qa.length + Qd.length < 140737488355328
     ·rw [if_pos c8] at H
      have LMc8 := Aside0.mk c8
      clear c8
      obtain ⟨y152, hy152⟩ : ∃ y_ : List Int, y_ = (Qa ++ Qd) := ⟨_, rfl⟩
      replace H : (some (y152, 0)) = some (r1, r2) := by first | (rw [hy152]; with_reducible exact H) | (have H2_ := (Option.bind_some _ _).symm.trans H; rw [hy152]; with_reducible exact H2_) | (have H2_ := (Option.bind_some _ _).symm.trans H; with_reducible exact H2_) | with_reducible exact H | (rw [hy152]; exact H) | exact H
      have Ny152 := Aside0.mk hy152
      clear hy152
      simp only [Option.some.injEq, Prod.mk.injEq] at H
      obtain ⟨rfl, rfl⟩ := H
      go_enter Tryd.func10, Tryd.ntmps10
      go_wp2_with (first | ((with_reducible refine qqs (N := 1) rfl ?_); refine box_event ?hg (N := 1) ?hd (cs := #[.int .i64 a0_0, .int .i64 a0_1, .int .i64 a0_2, .int .i64 a0_3, .int .i64 a0_4, .int .i64 a0_5, .int .i64 a0_6, .int .i64 a0_7, .int .i64 a0_8, .int .i64 a0_9]) (t := 29) ?hr ?_; (case hd => rfl); (case hg => rfl); (case hr => first | (go_simp; done) | (go_simp; rfl)); intro Yn hg w9 hbox hb; have n0_ := bst HB hb; have n1_ := Aside0.mk (hbox); have n2_ := szl HB hg; have n3_ := szl HB hg; clear HB; have HB := n0_; have Q3 := n1_; have GW134 := n2_; have GE134 := n3_; clear n0_ n1_ n2_ n3_; clear hb hbox hg; obtain ⟨_, _, _, _, _, _, _, _, _, _⟩ := bcells10 Q3.out; obtain ⟨_, _, _, _, _, _, _, _, _, _⟩ := bfrozen10 Q3.out) | ((with_reducible refine qqr (f := 14) rfl ?_); refine goesL_ (some 10) rfl rfl Tryd.func14 (by kernel_rfl) rfl #[.agg #[.int .i64 a0_0, .int .i64 a0_1, .int .i64 a0_2, .int .i64 a0_3, .int .i64 a0_4, .int .i64 a0_5, .int .i64 a0_6, .int .i64 a0_7, .int .i64 a0_8, .int .i64 a0_9]] rfl (by (try simp only [List.map_toArray, List.map_cons, List.map_nil]); first | done | rfl | (simp only [List.length_drop, List.length_take]; rfl)) ?_; (with_reducible refine (msg_Put.calls k a0_0 a0_1 a0_2 a0_3 a0_4 a0_5 a0_6 a0_7 a0_8 a0_9 Q8 t138 _ ?sideG_ A2.out).mono ?_); (case sideG_ => exact hG.below rfl (by repeat (first | (with_reducible first | exact HB.out | apply qqc | apply qqa | apply qqb | refine qqd ?_ GE134.out) | exact HB.out))); rintro e w11 ⟨v136, rfl, ho0, hb⟩; refine ⟨_, rfl, ?_⟩; have Q4 := Aside0.mk (Kd.R_lower ho0 (qqu (by repeat (first | (with_reducible first | exact HB.out | apply qqc | apply qqa | apply qqb | refine qqd ?_ GE134.out) | exact HB.out)))); replace Q3 := bbl Q3 hb; replace HB := bst HB hb; (try clear hb); (try clear hk); (try clear ho0); obtain ⟨Ao12, co12, eo12⟩ := Kd.R_slice Q4.out; subst eo12) | ((with_reducible refine qqs (N := 19) rfl ?_); refine Kd.R_lit (Kd.int .u8) _ 5 ?hg (N := 19) ?hd (xs := ([197, ((Q8.length : Int)) % 256] : List Int)) (inner := [.int .u8 197, .int .u8 (((Q8.length : Int)) % 256)]) (ok := fun _ => True) (okp := fun _ => True) ?hr ?hp (fun _ hk => hk) trivial (Below.refl _ _) (Nat.le_refl _) (by simp) ?_; (case hd => rfl); (case hg => rfl); (case hr => first | (go_simp; done) | (go_simp; rfl)); (case hp => exact (Reps.one (show Kd.M (Kd.int .u8) _ _ _ 197 [.int .u8 197] from rfl) (Reps.one (show Kd.M (Kd.int .u8) _ _ _ (((Q8.length : Int)) % 256) [.int .u8 (((Q8.length : Int)) % 256)] from rfl) (Reps.none _ _)))); intro v140 w13 ho14 hb hg_ hnew_; clear hg_ hnew_; (first | rw [← Ny139.out] at ho14 | (simp only [Int.reduceToNat] at ho14; rw [← Ny139.out] at ho14)); have n0_ := Aside0.mk (Kd.R_elder' (by (with_reducible repeat (first | apply Kd.R_alloc | apply Kd.R_drewN | apply Kd.R_drew)); exact Q4.out) (Kd.R_base ho14) hb); have n1_ := Aside0.mk (Kd.R_lower (Kd.R_new' ho14 (Kd.R_lt (by (with_reducible repeat (first | apply Kd.R_alloc | apply Kd.R_drewN | apply Kd.R_drew)); exact Q4.out))) (qqu (by repeat (first | (with_reducible first | exact HB.out | apply qqc | apply qqa | apply qqb | refine qqd ?_ GE134.out) | exact HB.out)))); have n2_ := bbl Q3 hb; have n3_ := bst HB hb; clear Q4; clear Q3; clear HB; have Q4 := n0_; have Yo := n1_; have Q3 := n2_; have HB := n3_; clear n0_ n1_ n2_ n3_; clear hb ho14) | ((with_reducible refine gate_builtin (b := .append) (xs := #[.tmp 19, .tmp 20]) rfl ?_); at_builtin; refine Kd.R_append_rows (Kd.int .u8) (w0 := w) w.heap.size rfl (.tmp 19) (.tmp 20) 31 5 (.int .u8 0) 1 rfl Tryd.underlying31 info5 rfl (by decide) (by omega) v140 Qq Q8 _ _ _ (fun k_ => some k_ ≠ (.slice Ao12 Q8.length co12 : Value).ownBlock) (fun _ => False) rfl rfl ?aO ?aR (fun _ _ h => h) (fun _ h => h.elim) ?aF ?aB ?aS ?aL ?_; (case aR => repeat (first | exact (Kd.R_reads' Q4.out).2.2 | (with_reducible refine Kd.C_alloc ?_ _) | (with_reducible refine Kd.C_drewN ?_ _) | (with_reducible refine Kd.C_drew ?_))); (case aB => exact (by repeat (first | (with_reducible first | exact HB.out | apply qqc | apply qqa | apply qqb | refine qqd ?_ GE134.out) | exact HB.out))); (case aF => exact (fun k_ hk => Kd.fresh' (Kd.R_lt (by (with_reducible repeat (first | apply Kd.R_alloc | apply Kd.R_drewN | apply Kd.R_drew)); exact Q4.out)) k_ hk)); (case aO => exact (by (with_reducible repeat (first | apply Kd.R_alloc | apply Kd.R_drewN | apply Kd.R_drew)); exact Kd.R_mono Yo.out (fun _ hk => hk.2))); (case aS => exact (qqu (by repeat (first | (with_reducible first | exact HB.out | apply qqc | apply qqa | apply qqb | refine qqd ?_ GE134.out) | exact HB.out)))); (case aL => have := LMc4.out; omega); intro v143 w15 ho hb hg hat; rw [← Ny142.out] at ho; have n0_ := Aside0.mk (blk_grown (g := Yn) (o := .cells #[.int .i64 a0_0, .int .i64 a0_1, .int .i64 a0_2, .int .i64 a0_3, .int .i64 a0_4, .int .i64 a0_5, .int .i64 a0_6, .int .i64 a0_7, .int .i64 a0_8, .int .i64 a0_9] 29 (0, 0)) (by (with_reducible repeat (first | refine qqg ?_ _ | refine qqk ?_ | refine qqh ?_ _)); exact Q3.out) hg (Kd.R_ne Yo.out Q3.out (by decide))); have n1_ := Aside0.mk (Kd.R_after (ok := (fun _ => True)) (by (with_reducible repeat (first | apply Kd.R_alloc | apply Kd.R_drewN | apply Kd.R_drew)); exact Q4.out) hg hat); have n2_ := Aside0.mk (hb); have n3_ := Aside0.mk (ho); clear Q3; clear Q4; clear HB; clear Yo; have Q3 := n0_; have Q4 := n1_; have HB := n2_; have Qh := n3_; clear n0_ n1_ n2_ n3_; clear ho hb hg hat) | ((with_reducible refine gate_builtin (b := .append) (xs := #[.tmp 26, .tmp 27]) rfl ?_); at_builtin; refine Kd.R_append (Kd.int .u8) (w0 := w) w.heap.size rfl (.tmp 26) (.tmp 27) 31 5 (.int .u8 0) 1 rfl Tryd.underlying31 info5 rfl (by decide) (by omega) v143 Q7 0 [.int .u8 0] (fun k_ => some k_ ≠ (.slice Ao12 Q8.length co12 : Value).ownBlock) (fun _ => False) rfl rfl ?aP (fun _ hk => hk.elim) ?aF ?aO ?aB ?aS ?aL ?_; (case aP => exact rfl); (case aB => exact (by repeat (first | (with_reducible first | exact HB.out | apply qqc | apply qqa | apply qqb | refine qqd ?_ GE134.out) | exact HB.out))); (case aF => exact (fun k_ hk => Kd.fresh' (Kd.R_lt (by (with_reducible repeat (first | apply Kd.R_alloc | apply Kd.R_drewN | apply Kd.R_drew)); exact Q4.out)) k_ hk)); (case aO => exact (by (with_reducible repeat (first | apply Kd.R_alloc | apply Kd.R_drewN | apply Kd.R_drew)); exact Qh.out)); (case aS => exact (qqu (by repeat (first | (with_reducible first | exact HB.out | apply qqc | apply qqa | apply qqb | refine qqd ?_ GE134.out) | exact HB.out)))); (case aL => have := LMc6.out; omega); intro v146 w16 ho hb hg hat; rw [← Ny145.out] at ho; have n0_ := Aside0.mk (blk_grown (g := Yn) (o := .cells #[.int .i64 a0_0, .int .i64 a0_1, .int .i64 a0_2, .int .i64 a0_3, .int .i64 a0_4, .int .i64 a0_5, .int .i64 a0_6, .int .i64 a0_7, .int .i64 a0_8, .int .i64 a0_9] 29 (0, 0)) (by (with_reducible repeat (first | refine qqg ?_ _ | refine qqk ?_ | refine qqh ?_ _)); exact Q3.out) hg (Kd.R_ne Qh.out Q3.out (by decide))); have n1_ := Aside0.mk (Kd.R_after (ok := (fun _ => True)) (by (with_reducible repeat (first | apply Kd.R_alloc | apply Kd.R_drewN | apply Kd.R_drew)); exact Q4.out) hg hat); have n2_ := Aside0.mk (hb); have n3_ := Aside0.mk (ho); clear Q3; clear Q4; clear HB; clear Qh; have Q3 := n0_; have Q4 := n1_; have HB := n2_; have Qp := n3_; clear n0_ n1_ n2_ n3_; clear ho hb hg hat; obtain ⟨Ao17, co17, eo17⟩ := Kd.R_slice Qp.out; subst eo17) | ((with_reducible refine qqr (f := 16) rfl ?_); refine goesL_ (some 30) rfl rfl Tryd.func16 (by kernel_rfl) rfl #[.slice Ao17 Qa.length co17] rfl (by (try simp only [List.map_toArray, List.map_cons, List.map_nil]); first | done | rfl | (simp only [List.length_drop, List.length_take]; rfl)) ?_; (with_reducible refine (octets_Sum.calls _ _ Qa Qc _ ?side1 ?side2 A7.out).mono ?_); (case side1 => repeat (first | exact (Kd.R_reads' Qp.out).2.2 | (with_reducible refine Kd.C_alloc ?_ _) | (with_reducible refine Kd.C_drewN ?_ _) | (with_reducible refine Kd.C_drew ?_))); (case side2 => exact (Kd.R_reads' Qp.out).2.1); rintro e w' ⟨rfl, ⟨nd, rfl⟩⟩; refine ⟨_, rfl, ?_⟩) | ((with_reducible refine qqs (N := 37) rfl ?_); refine Kd.R_lit (Kd.int .u8) _ 5 ?hg (N := 37) ?hd (xs := ([(Qc / 256) % 256, (Qc) % 256] : List Int)) (inner := [.int .u8 ((Qc / 256) % 256), .int .u8 ((Qc) % 256)]) (ok := fun _ => True) (okp := fun _ => True) ?hr ?hp (fun _ hk => hk) trivial (Below.refl _ _) (Nat.le_refl _) (by simp) ?_; (case hd => rfl); (case hg => rfl); (case hr => first | (go_simp; done) | (go_simp; rfl)); (case hp => exact (Reps.one (show Kd.M (Kd.int .u8) _ _ _ ((Qc / 256) % 256) [.int .u8 ((Qc / 256) % 256)] from rfl) (Reps.one (show Kd.M (Kd.int .u8) _ _ _ ((Qc) % 256) [.int .u8 ((Qc) % 256)] from rfl) (Reps.none _ _)))); intro v150 w18 ho19 hb hg_ hnew_; clear hg_ hnew_; (first | rw [← Ny149.out] at ho19 | (simp only [Int.reduceToNat] at ho19; rw [← Ny149.out] at ho19)); have n0_ := Aside0.mk (Kd.R_elder' (by (with_reducible repeat (first | apply Kd.R_alloc | apply Kd.R_drewN | apply Kd.R_drew)); exact Q4.out) (Kd.R_base ho19) hb); have n1_ := Aside0.mk (Kd.R_elder' (by (with_reducible repeat (first | apply Kd.R_alloc | apply Kd.R_drewN | apply Kd.R_drew)); exact Qp.out) (Kd.R_base ho19) hb); have n2_ := Aside0.mk (Kd.R_lower (Kd.R_new' (Kd.R_new' ho19 (Kd.R_lt (by (with_reducible repeat (first | apply Kd.R_alloc | apply Kd.R_drewN | apply Kd.R_drew)); exact Q4.out))) (Kd.R_lt (by (with_reducible repeat (first | apply Kd.R_alloc | apply Kd.R_drewN | apply Kd.R_drew)); exact Qp.out))) (qqu (by repeat (first | (with_reducible first | exact HB.out | apply qqc | apply qqa | apply qqb | refine qqd ?_ GE134.out) | exact HB.out)))); have n3_ := bbl Q3 hb; have n4_ := bst HB hb; clear Q4; clear Qp; clear Q3; clear HB; have Q4 := n0_; have Qp := n1_; have Yr := n2_; have Q3 := n3_; have HB := n4_; clear n0_ n1_ n2_ n3_ n4_; clear hb ho19; obtain ⟨Ao21, co21, eo21⟩ := Kd.R_slice Yr.out; subst eo21) | ((with_reducible refine gate_builtin (b := .append) (xs := #[.tmp 31, .tmp 37]) rfl ?_); at_builtin; refine Kd.R_append_rows (Kd.int .u8) (w0 := w) w.heap.size rfl (.tmp 31) (.tmp 37) 31 5 (.int .u8 0) 1 rfl Tryd.underlying31 info5 rfl (by decide) (by omega) (.slice Ao17 Qa.length co17) Qa Qd _ _ _ (fun k_ => some k_ ≠ (.slice Ao12 Q8.length co12 : Value).ownBlock ∧ some k_ ≠ (.slice Ao21 Qd.length co21 : Value).ownBlock) (fun _ => False) rfl rfl ?aO ?aR (fun _ _ h => h) (fun _ h => h.elim) ?aF ?aB ?aS ?aL ?_; (case aR => repeat (first | exact (Kd.R_reads' Yr.out).2.2 | (with_reducible refine Kd.C_alloc ?_ _) | (with_reducible refine Kd.C_drewN ?_ _) | (with_reducible refine Kd.C_drew ?_))); (case aB => exact (by repeat (first | (with_reducible first | exact HB.out | apply qqc | apply qqa | apply qqb | refine qqd ?_ GE134.out) | exact HB.out))); (case aF => exact (fun k_ hk => ⟨Kd.fresh' (Kd.R_lt (by (with_reducible repeat (first | apply Kd.R_alloc | apply Kd.R_drewN | apply Kd.R_drew)); exact Q4.out)) k_ hk, Kd.fresh' (Kd.R_lt (by (with_reducible repeat (first | apply Kd.R_alloc | apply Kd.R_drewN | apply Kd.R_drew)); exact Yr.out)) k_ hk⟩)); (case aO => exact (by (with_reducible repeat (first | apply Kd.R_alloc | apply Kd.R_drewN | apply Kd.R_drew)); exact Qp.out)); (case aS => exact (qqu (by repeat (first | (with_reducible first | exact HB.out | apply qqc | apply qqa | apply qqb | refine qqd ?_ GE134.out) | exact HB.out)))); (case aL => have := LMc8.out; omega); intro v153 w20 ho hb hg hat; rw [← Ny152.out] at ho; have n0_ := Aside0.mk (blk_grown (g := Yn) (o := .cells #[.int .i64 a0_0, .int .i64 a0_1, .int .i64 a0_2, .int .i64 a0_3, .int .i64 a0_4, .int .i64 a0_5, .int .i64 a0_6, .int .i64 a0_7, .int .i64 a0_8, .int .i64 a0_9] 29 (0, 0)) (by (with_reducible repeat (first | refine qqg ?_ _ | refine qqk ?_ | refine qqh ?_ _)); exact Q3.out) hg (Kd.R_ne Qp.out Q3.out (by decide))); have n1_ := Aside0.mk (Kd.R_after (ok := (fun k_ => some k_ ≠ (.slice Ao21 Qd.length co21 : Value).ownBlock)) (by (with_reducible repeat (first | apply Kd.R_alloc | apply Kd.R_drewN | apply Kd.R_drew)); exact Kd.R_mono Q4.out (fun _ hk => ⟨hk.2, hk.1.2⟩)) hg hat); have n2_ := Aside0.mk (Kd.R_after (ok := (fun k_ => some k_ ≠ (.slice Ao12 Q8.length co12 : Value).ownBlock)) (by (with_reducible repeat (first | apply Kd.R_alloc | apply Kd.R_drewN | apply Kd.R_drew)); exact Kd.R_mono Yr.out (fun _ hk => ⟨hk.1.2, hk.2⟩)) hg hat); have n3_ := Aside0.mk (hb); have n4_ := Aside0.mk (ho); clear Q3; clear Q4; clear Yr; clear HB; clear Qp; have Q3 := n0_; have Q4 := n1_; have Yr := n2_; have HB := n3_; have HO154 := n4_; clear n0_ n1_ n2_ n3_ n4_; clear ho hb hg hat))
      go_ret2
      exact ⟨_, by first | rfl | (simp [qqj, qqi] <;> rfl) | (simp [*, qqj, qqi] <;> rfl), by (with_reducible repeat (first | apply Kd.R_alloc | apply Kd.R_drewN | apply Kd.R_drew)); exact Kd.R_mono HO154.out (fun _ hk => trivial), by repeat (first | (with_reducible first | exact HB.out | apply qqc | apply qqa | apply qqb | refine qqd ?_ GE134.out) | exact HB.out)⟩
     ·rw [if_neg c8] at H
      exact absurd H (by simp)
    ·rw [if_neg c6] at H
     exact absurd H (by simp)
   ·rw [if_neg c5] at H
    have c5b0 : (((Q8.length : Int) % 2) == 1) = false := beq_eq_false_iff_ne.mpr c5
    have c5b1 : (((Q8.length : Int) % 2) != 1) = true := bne_iff_ne.mpr c5
    replace H := Option.bind_eq_some_iff.mp H
    obtain ⟨Qe, A220, H⟩ := H
    replace H : ((some (([(Qe / 256) % 256, (Qe) % 256] : List Int) : List Int)).bind fun Qf => (if Q7.length + Qf.length < 140737488355328 then (some ((Q7 ++ Qf), 0)) else (none))) = some (r1, r2) := H
    have A22 := Aside0.mk A220
    clear A220
    obtain ⟨Qf, hy156⟩ : ∃ y_ : List Int, y_ = (([(Qe / 256) % 256, (Qe) % 256] : List Int)) := ⟨_, rfl⟩
    replace H : (if Q7.length + Qf.length < 140737488355328 then (some ((Q7 ++ Qf), 0)) else (none)) = some (r1, r2) := by first | (rw [hy156]; with_reducible exact H) | (have H2_ := (Option.bind_some _ _).symm.trans H; rw [hy156]; with_reducible exact H2_) | (have H2_ := (Option.bind_some _ _).symm.trans H; with_reducible exact H2_) | with_reducible exact H | (rw [hy156]; exact H) | exact H
    have Ny156 := Aside0.mk hy156
    clear hy156
    by_cases c23 : Q7.length + Qf.length < 140737488355328
    ·rw [if_pos c23] at H
     have LMc23 := Aside0.mk c23
     clear c23
     obtain ⟨y159, hy159⟩ : ∃ y_ : List Int, y_ = (Q7 ++ Qf) := ⟨_, rfl⟩
     replace H : (some (y159, 0)) = some (r1, r2) := by first | (rw [hy159]; with_reducible exact H) | (have H2_ := (Option.bind_some _ _).symm.trans H; rw [hy159]; with_reducible exact H2_) | (have H2_ := (Option.bind_some _ _).symm.trans H; with_reducible exact H2_) | with_reducible exact H | (rw [hy159]; exact H) | exact H
     have Ny159 := Aside0.mk hy159
     clear hy159
     simp only [Option.some.injEq, Prod.mk.injEq] at H
     obtain ⟨rfl, rfl⟩ := H
     go_enter Tryd.func10, Tryd.ntmps10
     go_wp2_with (first | ((with_reducible refine qqs (N := 1) rfl ?_); refine box_event ?hg (N := 1) ?hd (cs := #[.int .i64 a0_0, .int .i64 a0_1, .int .i64 a0_2, .int .i64 a0_3, .int .i64 a0_4, .int .i64 a0_5, .int .i64 a0_6, .int .i64 a0_7, .int .i64 a0_8, .int .i64 a0_9]) (t := 29) ?hr ?_; (case hd => rfl); (case hg => rfl); (case hr => first | (go_simp; done) | (go_simp; rfl)); intro Yn hg w24 hbox hb; have n0_ := bst HB hb; have n1_ := Aside0.mk (hbox); have n2_ := szl HB hg; have n3_ := szl HB hg; clear HB; have HB := n0_; have Q3 := n1_; have GW134 := n2_; have GE134 := n3_; clear n0_ n1_ n2_ n3_; clear hb hbox hg; obtain ⟨_, _, _, _, _, _, _, _, _, _⟩ := bcells10 Q3.out; obtain ⟨_, _, _, _, _, _, _, _, _, _⟩ := bfrozen10 Q3.out) | ((with_reducible refine qqr (f := 14) rfl ?_); refine goesL_ (some 10) rfl rfl Tryd.func14 (by kernel_rfl) rfl #[.agg #[.int .i64 a0_0, .int .i64 a0_1, .int .i64 a0_2, .int .i64 a0_3, .int .i64 a0_4, .int .i64 a0_5, .int .i64 a0_6, .int .i64 a0_7, .int .i64 a0_8, .int .i64 a0_9]] rfl (by (try simp only [List.map_toArray, List.map_cons, List.map_nil]); first | done | rfl | (simp only [List.length_drop, List.length_take]; rfl)) ?_; (with_reducible refine (msg_Put.calls k a0_0 a0_1 a0_2 a0_3 a0_4 a0_5 a0_6 a0_7 a0_8 a0_9 Q8 t138 _ ?sideG_ A2.out).mono ?_); (case sideG_ => exact hG.below rfl (by repeat (first | (with_reducible first | exact HB.out | apply qqc | apply qqa | apply qqb | refine qqd ?_ GE134.out) | exact HB.out))); rintro e w26 ⟨v136, rfl, ho0, hb⟩; refine ⟨_, rfl, ?_⟩; have Q4 := Aside0.mk (Kd.R_lower ho0 (qqu (by repeat (first | (with_reducible first | exact HB.out | apply qqc | apply qqa | apply qqb | refine qqd ?_ GE134.out) | exact HB.out)))); replace Q3 := bbl Q3 hb; replace HB := bst HB hb; (try clear hb); (try clear hk); (try clear ho0); obtain ⟨Ao27, co27, eo27⟩ := Kd.R_slice Q4.out; subst eo27) | ((with_reducible refine qqs (N := 19) rfl ?_); refine Kd.R_lit (Kd.int .u8) _ 5 ?hg (N := 19) ?hd (xs := ([197, ((Q8.length : Int)) % 256] : List Int)) (inner := [.int .u8 197, .int .u8 (((Q8.length : Int)) % 256)]) (ok := fun _ => True) (okp := fun _ => True) ?hr ?hp (fun _ hk => hk) trivial (Below.refl _ _) (Nat.le_refl _) (by simp) ?_; (case hd => rfl); (case hg => rfl); (case hr => first | (go_simp; done) | (go_simp; rfl)); (case hp => exact (Reps.one (show Kd.M (Kd.int .u8) _ _ _ 197 [.int .u8 197] from rfl) (Reps.one (show Kd.M (Kd.int .u8) _ _ _ (((Q8.length : Int)) % 256) [.int .u8 (((Q8.length : Int)) % 256)] from rfl) (Reps.none _ _)))); intro v140 w28 ho29 hb hg_ hnew_; clear hg_ hnew_; (first | rw [← Ny139.out] at ho29 | (simp only [Int.reduceToNat] at ho29; rw [← Ny139.out] at ho29)); have n0_ := Aside0.mk (Kd.R_elder' (by (with_reducible repeat (first | apply Kd.R_alloc | apply Kd.R_drewN | apply Kd.R_drew)); exact Q4.out) (Kd.R_base ho29) hb); have n1_ := Aside0.mk (Kd.R_lower (Kd.R_new' ho29 (Kd.R_lt (by (with_reducible repeat (first | apply Kd.R_alloc | apply Kd.R_drewN | apply Kd.R_drew)); exact Q4.out))) (qqu (by repeat (first | (with_reducible first | exact HB.out | apply qqc | apply qqa | apply qqb | refine qqd ?_ GE134.out) | exact HB.out)))); have n2_ := bbl Q3 hb; have n3_ := bst HB hb; clear Q4; clear Q3; clear HB; have Q4 := n0_; have Yo := n1_; have Q3 := n2_; have HB := n3_; clear n0_ n1_ n2_ n3_; clear hb ho29) | ((with_reducible refine gate_builtin (b := .append) (xs := #[.tmp 19, .tmp 20]) rfl ?_); at_builtin; refine Kd.R_append_rows (Kd.int .u8) (w0 := w) w.heap.size rfl (.tmp 19) (.tmp 20) 31 5 (.int .u8 0) 1 rfl Tryd.underlying31 info5 rfl (by decide) (by omega) v140 Qq Q8 _ _ _ (fun k_ => some k_ ≠ (.slice Ao27 Q8.length co27 : Value).ownBlock) (fun _ => False) rfl rfl ?aO ?aR (fun _ _ h => h) (fun _ h => h.elim) ?aF ?aB ?aS ?aL ?_; (case aR => repeat (first | exact (Kd.R_reads' Q4.out).2.2 | (with_reducible refine Kd.C_alloc ?_ _) | (with_reducible refine Kd.C_drewN ?_ _) | (with_reducible refine Kd.C_drew ?_))); (case aB => exact (by repeat (first | (with_reducible first | exact HB.out | apply qqc | apply qqa | apply qqb | refine qqd ?_ GE134.out) | exact HB.out))); (case aF => exact (fun k_ hk => Kd.fresh' (Kd.R_lt (by (with_reducible repeat (first | apply Kd.R_alloc | apply Kd.R_drewN | apply Kd.R_drew)); exact Q4.out)) k_ hk)); (case aO => exact (by (with_reducible repeat (first | apply Kd.R_alloc | apply Kd.R_drewN | apply Kd.R_drew)); exact Kd.R_mono Yo.out (fun _ hk => hk.2))); (case aS => exact (qqu (by repeat (first | (with_reducible first | exact HB.out | apply qqc | apply qqa | apply qqb | refine qqd ?_ GE134.out) | exact HB.out)))); (case aL => have := LMc4.out; omega); intro v143 w30 ho hb hg hat; rw [← Ny142.out] at ho; have n0_ := Aside0.mk (blk_grown (g := Yn) (o := .cells #[.int .i64 a0_0, .int .i64 a0_1, .int .i64 a0_2, .int .i64 a0_3, .int .i64 a0_4, .int .i64 a0_5, .int .i64 a0_6, .int .i64 a0_7, .int .i64 a0_8, .int .i64 a0_9] 29 (0, 0)) (by (with_reducible repeat (first | refine qqg ?_ _ | refine qqk ?_ | refine qqh ?_ _)); exact Q3.out) hg (Kd.R_ne Yo.out Q3.out (by decide))); have n1_ := Aside0.mk (Kd.R_after (ok := (fun _ => True)) (by (with_reducible repeat (first | apply Kd.R_alloc | apply Kd.R_drewN | apply Kd.R_drew)); exact Q4.out) hg hat); have n2_ := Aside0.mk (hb); have n3_ := Aside0.mk (ho); clear Q3; clear Q4; clear HB; clear Yo; have Q3 := n0_; have Q4 := n1_; have HB := n2_; have Qh := n3_; clear n0_ n1_ n2_ n3_; clear ho hb hg hat; obtain ⟨Ao31, co31, eo31⟩ := Kd.R_slice Qh.out; subst eo31) | ((with_reducible refine qqr (f := 16) rfl ?_); refine goesL_ (some 30) rfl rfl Tryd.func16 (by kernel_rfl) rfl #[.slice Ao31 Q7.length co31] rfl (by (try simp only [List.map_toArray, List.map_cons, List.map_nil]); first | done | rfl | (simp only [List.length_drop, List.length_take]; rfl)) ?_; (with_reducible refine (octets_Sum.calls _ _ Q7 Qe _ ?side1 ?side2 A22.out).mono ?_); (case side1 => repeat (first | exact (Kd.R_reads' Qh.out).2.2 | (with_reducible refine Kd.C_alloc ?_ _) | (with_reducible refine Kd.C_drewN ?_ _) | (with_reducible refine Kd.C_drew ?_))); (case side2 => exact (Kd.R_reads' Qh.out).2.1); rintro e w' ⟨rfl, ⟨nd, rfl⟩⟩; refine ⟨_, rfl, ?_⟩) | ((with_reducible refine qqs (N := 37) rfl ?_); refine Kd.R_lit (Kd.int .u8) _ 5 ?hg (N := 37) ?hd (xs := ([(Qe / 256) % 256, (Qe) % 256] : List Int)) (inner := [.int .u8 ((Qe / 256) % 256), .int .u8 ((Qe) % 256)]) (ok := fun _ => True) (okp := fun _ => True) ?hr ?hp (fun _ hk => hk) trivial (Below.refl _ _) (Nat.le_refl _) (by simp) ?_; (case hd => rfl); (case hg => rfl); (case hr => first | (go_simp; done) | (go_simp; rfl)); (case hp => exact (Reps.one (show Kd.M (Kd.int .u8) _ _ _ ((Qe / 256) % 256) [.int .u8 ((Qe / 256) % 256)] from rfl) (Reps.one (show Kd.M (Kd.int .u8) _ _ _ ((Qe) % 256) [.int .u8 ((Qe) % 256)] from rfl) (Reps.none _ _)))); intro v157 w32 ho33 hb hg_ hnew_; clear hg_ hnew_; (first | rw [← Ny156.out] at ho33 | (simp only [Int.reduceToNat] at ho33; rw [← Ny156.out] at ho33)); have n0_ := Aside0.mk (Kd.R_elder' (by (with_reducible repeat (first | apply Kd.R_alloc | apply Kd.R_drewN | apply Kd.R_drew)); exact Q4.out) (Kd.R_base ho33) hb); have n1_ := Aside0.mk (Kd.R_elder' (by (with_reducible repeat (first | apply Kd.R_alloc | apply Kd.R_drewN | apply Kd.R_drew)); exact Qh.out) (Kd.R_base ho33) hb); have n2_ := Aside0.mk (Kd.R_lower (Kd.R_new' (Kd.R_new' ho33 (Kd.R_lt (by (with_reducible repeat (first | apply Kd.R_alloc | apply Kd.R_drewN | apply Kd.R_drew)); exact Q4.out))) (Kd.R_lt (by (with_reducible repeat (first | apply Kd.R_alloc | apply Kd.R_drewN | apply Kd.R_drew)); exact Qh.out))) (qqu (by repeat (first | (with_reducible first | exact HB.out | apply qqc | apply qqa | apply qqb | refine qqd ?_ GE134.out) | exact HB.out)))); have n3_ := bbl Q3 hb; have n4_ := bst HB hb; clear Q4; clear Qh; clear Q3; clear HB; have Q4 := n0_; have Qh := n1_; have Ys := n2_; have Q3 := n3_; have HB := n4_; clear n0_ n1_ n2_ n3_ n4_; clear hb ho33; obtain ⟨Ao35, co35, eo35⟩ := Kd.R_slice Ys.out; subst eo35) | ((with_reducible refine gate_builtin (b := .append) (xs := #[.tmp 31, .tmp 37]) rfl ?_); at_builtin; refine Kd.R_append_rows (Kd.int .u8) (w0 := w) w.heap.size rfl (.tmp 31) (.tmp 37) 31 5 (.int .u8 0) 1 rfl Tryd.underlying31 info5 rfl (by decide) (by omega) (.slice Ao31 Q7.length co31) Q7 Qf _ _ _ (fun k_ => some k_ ≠ (.slice Ao27 Q8.length co27 : Value).ownBlock ∧ some k_ ≠ (.slice Ao35 Qf.length co35 : Value).ownBlock) (fun _ => False) rfl rfl ?aO ?aR (fun _ _ h => h) (fun _ h => h.elim) ?aF ?aB ?aS ?aL ?_; (case aR => repeat (first | exact (Kd.R_reads' Ys.out).2.2 | (with_reducible refine Kd.C_alloc ?_ _) | (with_reducible refine Kd.C_drewN ?_ _) | (with_reducible refine Kd.C_drew ?_))); (case aB => exact (by repeat (first | (with_reducible first | exact HB.out | apply qqc | apply qqa | apply qqb | refine qqd ?_ GE134.out) | exact HB.out))); (case aF => exact (fun k_ hk => ⟨Kd.fresh' (Kd.R_lt (by (with_reducible repeat (first | apply Kd.R_alloc | apply Kd.R_drewN | apply Kd.R_drew)); exact Q4.out)) k_ hk, Kd.fresh' (Kd.R_lt (by (with_reducible repeat (first | apply Kd.R_alloc | apply Kd.R_drewN | apply Kd.R_drew)); exact Ys.out)) k_ hk⟩)); (case aO => exact (by (with_reducible repeat (first | apply Kd.R_alloc | apply Kd.R_drewN | apply Kd.R_drew)); exact Qh.out)); (case aS => exact (qqu (by repeat (first | (with_reducible first | exact HB.out | apply qqc | apply qqa | apply qqb | refine qqd ?_ GE134.out) | exact HB.out)))); (case aL => have := LMc23.out; omega); intro v160 w34 ho hb hg hat; rw [← Ny159.out] at ho; have n0_ := Aside0.mk (blk_grown (g := Yn) (o := .cells #[.int .i64 a0_0, .int .i64 a0_1, .int .i64 a0_2, .int .i64 a0_3, .int .i64 a0_4, .int .i64 a0_5, .int .i64 a0_6, .int .i64 a0_7, .int .i64 a0_8, .int .i64 a0_9] 29 (0, 0)) (by (with_reducible repeat (first | refine qqg ?_ _ | refine qqk ?_ | refine qqh ?_ _)); exact Q3.out) hg (Kd.R_ne Qh.out Q3.out (by decide))); have n1_ := Aside0.mk (Kd.R_after (ok := (fun k_ => some k_ ≠ (.slice Ao35 Qf.length co35 : Value).ownBlock)) (by (with_reducible repeat (first | apply Kd.R_alloc | apply Kd.R_drewN | apply Kd.R_drew)); exact Kd.R_mono Q4.out (fun _ hk => ⟨hk.2, hk.1.2⟩)) hg hat); have n2_ := Aside0.mk (Kd.R_after (ok := (fun k_ => some k_ ≠ (.slice Ao27 Q8.length co27 : Value).ownBlock)) (by (with_reducible repeat (first | apply Kd.R_alloc | apply Kd.R_drewN | apply Kd.R_drew)); exact Kd.R_mono Ys.out (fun _ hk => ⟨hk.1.2, hk.2⟩)) hg hat); have n3_ := Aside0.mk (hb); have n4_ := Aside0.mk (ho); clear Q3; clear Q4; clear Ys; clear HB; clear Qh; have Q3 := n0_; have Q4 := n1_; have Ys := n2_; have HB := n3_; have HO161 := n4_; clear n0_ n1_ n2_ n3_ n4_; clear ho hb hg hat))
     go_ret2
     exact ⟨_, by first | rfl | (simp [qqj, qqi] <;> rfl) | (simp [*, qqj, qqi] <;> rfl), by (with_reducible repeat (first | apply Kd.R_alloc | apply Kd.R_drewN | apply Kd.R_drew)); exact Kd.R_mono HO161.out (fun _ hk => trivial), by repeat (first | (with_reducible first | exact HB.out | apply qqc | apply qqa | apply qqb | refine qqd ?_ GE134.out) | exact HB.out)⟩
    ·rw [if_neg c23] at H
     exact absurd H (by simp)
  ·rw [if_neg c4] at H
   exact absurd H (by simp)
 ·rw [if_neg c3] at H
  have c3b0 : (t138 == 0) = false := beq_eq_false_iff_ne.mpr c3
  have c3b1 : (t138 != 0) = true := bne_iff_ne.mpr c3
  simp only [Option.some.injEq, Prod.mk.injEq] at H
  obtain ⟨rfl, rfl⟩ := H
  go_enter Tryd.func10, Tryd.ntmps10
  go_wp2_with (first | ((with_reducible refine qqs (N := 1) rfl ?_); refine box_event ?hg (N := 1) ?hd (cs := #[.int .i64 a0_0, .int .i64 a0_1, .int .i64 a0_2, .int .i64 a0_3, .int .i64 a0_4, .int .i64 a0_5, .int .i64 a0_6, .int .i64 a0_7, .int .i64 a0_8, .int .i64 a0_9]) (t := 29) ?hr ?_; (case hd => rfl); (case hg => rfl); (case hr => first | (go_simp; done) | (go_simp; rfl)); intro Yn hg w36 hbox hb; have n0_ := bst HB hb; have n1_ := Aside0.mk (hbox); have n2_ := szl HB hg; have n3_ := szl HB hg; clear HB; have HB := n0_; have Q3 := n1_; have GW134 := n2_; have GE134 := n3_; clear n0_ n1_ n2_ n3_; clear hb hbox hg; obtain ⟨_, _, _, _, _, _, _, _, _, _⟩ := bcells10 Q3.out; obtain ⟨_, _, _, _, _, _, _, _, _, _⟩ := bfrozen10 Q3.out) | ((with_reducible refine qqr (f := 14) rfl ?_); refine goesL_ (some 10) rfl rfl Tryd.func14 (by kernel_rfl) rfl #[.agg #[.int .i64 a0_0, .int .i64 a0_1, .int .i64 a0_2, .int .i64 a0_3, .int .i64 a0_4, .int .i64 a0_5, .int .i64 a0_6, .int .i64 a0_7, .int .i64 a0_8, .int .i64 a0_9]] rfl (by (try simp only [List.map_toArray, List.map_cons, List.map_nil]); first | done | rfl | (simp only [List.length_drop, List.length_take]; rfl)) ?_; (with_reducible refine (msg_Put.calls k a0_0 a0_1 a0_2 a0_3 a0_4 a0_5 a0_6 a0_7 a0_8 a0_9 Q8 t138 _ ?sideG_ A2.out).mono ?_); (case sideG_ => exact hG.below rfl (by repeat (first | (with_reducible first | exact HB.out | apply qqc | apply qqa | apply qqb | refine qqd ?_ GE134.out) | exact HB.out))); rintro e w38 ⟨v136, rfl, ho0, hb⟩; refine ⟨_, rfl, ?_⟩; have Q4 := Aside0.mk (Kd.R_lower ho0 (qqu (by repeat (first | (with_reducible first | exact HB.out | apply qqc | apply qqa | apply qqb | refine qqd ?_ GE134.out) | exact HB.out)))); replace Q3 := bbl Q3 hb; replace HB := bst HB hb; (try clear hb); (try clear ho0)))
  go_ret2
  exact ⟨_, by first | rfl | (simp [qqj, qqi] <;> rfl) | (simp [*, qqj, qqi] <;> rfl), by first | exact Kd.R_nil _ _ _ _ _ | exact Kd.N_nil _ _ _ _ _ | exact Kd.V_nil _ _ _ _ _ | exact Kd.Q_nil _ _ _ _ _ | exact Kd.S_nil _ _ _ _ _, by repeat (first | (with_reducible first | exact HB.out | apply qqc | apply qqa | apply qqb | refine qqd ?_ GE134.out) | exact HB.out)⟩
end Go.Proofs.YtpaoofkahhhjaaaDoor.All
