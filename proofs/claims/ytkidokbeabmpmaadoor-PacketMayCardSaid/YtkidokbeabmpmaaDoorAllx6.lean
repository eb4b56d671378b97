/- Contracts of Go functions that this seat comes to, each with a plain function that tells its answers; conditions: those that each contract names. Written by a program of this session (wip/print) over the print words. -/
import Derived.Test.YtkidokbeabmpmaaDoorAllx0
import Derived.Test.YtkidokbeabmpmaaDoorAllx2
import Derived.Test.YtkidokbeabmpmaaDoorAllx3
import Derived.Test.YtkidokbeabmpmaaDoorAllx4
namespace Go.Proofs.YtkidokbeabmpmaaDoor.All
open Go.RowKit Go.Proofs.YtkidokbeabmpmaaDoorW.PrintWords Go.Proofs.YtkidokbeabmpmaaDoorW.PrintLast Go.Proofs.YtkidokbeabmpmaaDoorW.PrintMore
attribute [local go_sem] max2_int min2_int max_two min_two max_three min_three max_four min_four   -- for this text's walks alone
set_option linter.unusedVariables false
set_option linter.unusedSimpArgs false

/-! ### wayfinderlaw03_PacketMay: function 4 -/
mutual
def wayfinderlaw03_PacketMay.j0 : Nat → Int → Bool → Bool → Int → Int → Int → Int → Int → Option (Bool)
  | 0, _, _, _, _, _, _, _, _ => none
  | k + 1, x1, x5, x21, x185000, x185001, x185002, x185003, x185004 => if x21 = true then (some x5) else ((some (([(⟨x185000, x185001, x185002, x185003, x185004⟩ : S23), (⟨x185000, x185001, x185002, x185003, x185004⟩ : S23), (⟨x185000, x185001, x185002, x185003, x185004⟩ : S23), (⟨x185000, x185001, x185002, x185003, x185004⟩ : S23), (⟨x185000, x185001, x185002, x185003, x185004⟩ : S23), (⟨x185000, x185001, x185002, x185003, x185004⟩ : S23)] : List (S23)) : List (S23))).bind fun y187 => (if 0 < (y187.length : Int) then ((some (y187.set (0 : Int).toNat (⟨wrap64 (-x1), (rd_T23 y187 0).f1, (rd_T23 y187 0).f2, (rd_T23 y187 0).f3, (rd_T23 y187 0).f4⟩ : S23) : List (S23))).bind fun y190 => (if 1 < (y187.length : Int) then ((some (y190.set (1 : Int).toNat (⟨(rd_T23 y190 1).f0, (rd_T23 y190 1).f1, (rd_T23 y190 1).f2, 17, (rd_T23 y190 1).f4⟩ : S23) : List (S23))).bind fun y191 => (if 2 < (y187.length : Int) then ((some (y191.set (2 : Int).toNat (⟨(rd_T23 y191 2).f0, (rd_T23 y191 2).f1, (rd_T23 y191 2).f2, (rd_T23 y191 2).f3, 4096⟩ : S23) : List (S23))).bind fun y192 => (if 3 < (y187.length : Int) then ((some (y192.set (3 : Int).toNat (⟨(rd_T23 y192 3).f0, (rd_T23 y192 3).f1, 4294967296, (rd_T23 y192 3).f3, (rd_T23 y192 3).f4⟩ : S23) : List (S23))).bind fun y193 => (if 4 < (y187.length : Int) then ((some (y193.set (4 : Int).toNat (⟨(rd_T23 y193 4).f0, (-1), (rd_T23 y193 4).f2, (rd_T23 y193 4).f3, (rd_T23 y193 4).f4⟩ : S23) : List (S23))).bind fun y194 => (if 5 < (y187.length : Int) then (wayfinderlaw03_PacketMay.l0 k (y194.set (5 : Int).toNat (⟨(rd_T23 y194 5).f0, (rd_T23 y194 5).f1, (rd_T23 y194 5).f2, wrap64 (-x1), (rd_T23 y194 5).f4⟩ : S23)) 0) else (none))) else (none))) else (none))) else (none))) else (none))) else (none)))
def wayfinderlaw03_PacketMay.l0 : Nat → List (S23) → Int → Option (Bool)
  | 0, _, _ => none
  | k + 1, x6, x7 => if x7 < (x6.length : Int) then (if 0 ≤ x7 then ((packet_Put.f k ((rd_T23 x6 x7).f0) ((rd_T23 x6 x7).f1) ((rd_T23 x6 x7).f2) ((rd_T23 x6 x7).f3) ((rd_T23 x6 x7).f4)).bind fun bt197 => ((packet_May.f ((rd_T23 x6 x7).f0) ((rd_T23 x6 x7).f1) ((rd_T23 x6 x7).f2) ((rd_T23 x6 x7).f3) ((rd_T23 x6 x7).f4)).bind fun t202 => (if t202 = true then (none) else (if bt197.2 = 1 then (if (bt197.1.length : Int) = 0 then (wayfinderlaw03_PacketMay.l0 k x6 (wrap64 (x7 + 1))) else (none)) else (none))))) else (none)) else (some true)
end
def wayfinderlaw03_PacketMay.f (k : Nat) (a0_0 : Int) (a0_1 : Int) (a0_2 : Int) (a0_3 : Int) (a0_4 : Int) (a1 : Int) : Option (Bool) := (wayfinderlaw03_awake.f k).bind fun t185 => (if t185 = true then ((packet_May.f a0_0 a0_1 a0_2 a0_3 a0_4).bind fun t186 => (if t186 = true then (wayfinderlaw03_PacketMay.j0 k a1 t185 (decide (a1 < 1)) a0_0 a0_1 a0_2 a0_3 a0_4) else (wayfinderlaw03_PacketMay.j0 k a1 t185 true a0_0 a0_1 a0_2 a0_3 a0_4))) else (wayfinderlaw03_PacketMay.j0 k a1 t185 true a0_0 a0_1 a0_2 a0_3 a0_4))
theorem wayfinderlaw03_PacketMay.mono_l : ∀ k, (∀ y0 y1 y2 y3 y4 y5 y6 y7, LeO (wayfinderlaw03_PacketMay.j0 k y0 y1 y2 y3 y4 y5 y6 y7) (wayfinderlaw03_PacketMay.j0 (k + 1) y0 y1 y2 y3 y4 y5 y6 y7)) ∧ (∀ y0 y1, LeO (wayfinderlaw03_PacketMay.l0 k y0 y1) (wayfinderlaw03_PacketMay.l0 (k + 1) y0 y1))
  | 0 => ⟨fun _ _ _ _ _ _ _ _ r h => by simp [wayfinderlaw03_PacketMay.j0] at h, fun _ _ r h => by simp [wayfinderlaw03_PacketMay.l0] at h⟩
  | k + 1 => by
    obtain ⟨ih0, ih1⟩ := wayfinderlaw03_PacketMay.mono_l k
    refine ⟨?_, ?_⟩
    · intro y0 y1 y2 y3 y4 y5 y6 y7
      unfold wayfinderlaw03_PacketMay.j0
      repeat' first
      | (with_reducible exact ih0 _ _ _ _ _ _ _ _)
      | (with_reducible exact ih1 _ _)
      | (with_reducible exact packet_Put.mono _ _ _ _ _ _)
      | (with_reducible exact wayfinderlaw03_awake.mono _)
      | (with_reducible exact LeO.refl _)
      | (with_reducible exact LeO.none _)
      | (with_reducible refine LeO.ite ?_ ?_)
      | (with_reducible refine LeO.bind ?_ (fun _ => ?_))
      | exact ih0 _ _ _ _ _ _ _ _
      | exact ih1 _ _
      | exact packet_Put.mono _ _ _ _ _ _
      | exact wayfinderlaw03_awake.mono _
      | exact LeO.none _
      | refine LeO.ite ?_ ?_
      | refine LeO.bind ?_ (fun _ => ?_)
    · intro y0 y1
      unfold wayfinderlaw03_PacketMay.l0
      repeat' first
      | (with_reducible exact ih0 _ _ _ _ _ _ _ _)
      | (with_reducible exact ih1 _ _)
      | (with_reducible exact packet_Put.mono _ _ _ _ _ _)
      | (with_reducible exact wayfinderlaw03_awake.mono _)
      | (with_reducible exact LeO.refl _)
      | (with_reducible exact LeO.none _)
      | (with_reducible refine LeO.ite ?_ ?_)
      | (with_reducible refine LeO.bind ?_ (fun _ => ?_))
      | exact ih0 _ _ _ _ _ _ _ _
      | exact ih1 _ _
      | exact packet_Put.mono _ _ _ _ _ _
      | exact wayfinderlaw03_awake.mono _
      | exact LeO.none _
      | refine LeO.ite ?_ ?_
      | refine LeO.bind ?_ (fun _ => ?_)
theorem wayfinderlaw03_PacketMay.mono : ∀ a0 a1 a2 a3 a4 a5 k, LeO (wayfinderlaw03_PacketMay.f k a0 a1 a2 a3 a4 a5) (wayfinderlaw03_PacketMay.f (k + 1) a0 a1 a2 a3 a4 a5) := by
  intro a0 a1 a2 a3 a4 a5 k
  obtain ⟨ih0, ih1⟩ := wayfinderlaw03_PacketMay.mono_l k
  unfold wayfinderlaw03_PacketMay.f
  repeat' first
      | (with_reducible exact ih0 _ _ _ _ _ _ _ _)
      | (with_reducible exact ih1 _ _)
      | (with_reducible exact packet_Put.mono _ _ _ _ _ _)
      | (with_reducible exact wayfinderlaw03_awake.mono _)
      | (with_reducible exact LeO.refl _)
      | (with_reducible exact LeO.none _)
      | (with_reducible refine LeO.ite ?_ ?_)
      | (with_reducible refine LeO.bind ?_ (fun _ => ?_))
      | exact ih0 _ _ _ _ _ _ _ _
      | exact ih1 _ _
      | exact packet_Put.mono _ _ _ _ _ _
      | exact wayfinderlaw03_awake.mono _
      | exact LeO.none _
      | refine LeO.ite ?_ ?_
      | refine LeO.bind ?_ (fun _ => ?_)
set_option maxHeartbeats 8000000 in
set_option maxRecDepth 100000 in
theorem wayfinderlaw03_PacketMay.calls (k : Nat) (a0_0 : Int) (a0_1 : Int) (a0_2 : Int) (a0_3 : Int) (a0_4 : Int) (a1 : Int) (r : Bool) (w : World) (hG : Glob w) (h : wayfinderlaw03_PacketMay.f k a0_0 a0_1 a0_2 a0_3 a0_4 a1 = some r) :
    Calls Tryd.prog 4 #[.agg #[.int .i64 a0_0, .int .i64 a0_1, .int .i64 a0_2, .int .i64 a0_3, .int .i64 a0_4], .int .i64 a1] w fun e w' => e = .returned (.bool r) ∧ Below w.heap.size w w' := by
  have hu23 := Tryd.underlying23
  have HB := Aside0.mk (Below.refl w.heap.size w)
  have H : ((wayfinderlaw03_awake.f k).bind fun t185 => (if t185 = true then ((packet_May.f a0_0 a0_1 a0_2 a0_3 a0_4).bind fun t186 => (if t186 = true then (wayfinderlaw03_PacketMay.j0 k a1 t185 (decide (a1 < 1)) a0_0 a0_1 a0_2 a0_3 a0_4) else (wayfinderlaw03_PacketMay.j0 k a1 t185 true a0_0 a0_1 a0_2 a0_3 a0_4))) else (wayfinderlaw03_PacketMay.j0 k a1 t185 true a0_0 a0_1 a0_2 a0_3 a0_4))) = some r := h
  clear h
  replace H := Option.bind_eq_some_iff.mp H
  obtain ⟨t185, A30, H⟩ := H
  replace H : (if t185 = true then ((packet_May.f a0_0 a0_1 a0_2 a0_3 a0_4).bind fun t186 => (if t186 = true then (wayfinderlaw03_PacketMay.j0 k a1 t185 (decide (a1 < 1)) a0_0 a0_1 a0_2 a0_3 a0_4) else (wayfinderlaw03_PacketMay.j0 k a1 t185 true a0_0 a0_1 a0_2 a0_3 a0_4))) else (wayfinderlaw03_PacketMay.j0 k a1 t185 true a0_0 a0_1 a0_2 a0_3 a0_4)) = some r := H
  have A3 := Aside0.mk A30
  clear A30
  have HC4 := Aside0.mk H
  clear H
  go_enter Tryd.func4, Tryd.ntmps4
  go_upto_region 2 with (first | ((with_reducible refine gate_dst (N := 2) rfl ?_); (try (refine gate_guard (by rfl) ?_; dsimp only)); refine box_event ?hg (N := 2) ?hd (cs := #[.int .i64 a0_0, .int .i64 a0_1, .int .i64 a0_2, .int .i64 a0_3, .int .i64 a0_4]) (t := 23) ?hr ?_; (case hd => rfl); (case hg => rfl); (case hr => first | (go_simp; done) | (go_simp; rfl)); intro gb184 hg w5 hbox hb; have n0_ := Aside0.mk (below_step (by repeat (first | (with_reducible first | exact HB.out | apply below_alloc | apply pw_below_drewN | apply below_drew1) | exact HB.out)) hb); have n1_ := Aside0.mk (hbox); have n2_ := Aside0.mk ((by rw [hg]; exact (below_size (by repeat (first | (with_reducible first | exact HB.out | apply below_alloc | apply pw_below_drewN | apply below_drew1) | exact HB.out))) : w.heap.size ≤ gb184)); have n3_ := Aside0.mk ((by rw [hg]; exact (below_size (by repeat (first | (with_reducible first | exact HB.out | apply below_alloc | apply pw_below_drewN | apply below_drew1) | exact HB.out))) : w.heap.size ≤ gb184)); clear HB; have HB := n0_; have BK184 := n1_; have GW184 := n2_; have GE184 := n3_; clear n0_ n1_ n2_ n3_; clear hb hbox hg) | ((with_reducible refine gate_callee (f := 9) rfl ?_); refine goesL_ (some 10) rfl rfl Tryd.func9 (by kernel_rfl) rfl #[] rfl (by (try simp only [List.map_toArray, List.map_cons, List.map_nil]); first | done | rfl | (simp only [List.length_drop, List.length_take]; rfl)) ?_; (with_reducible refine (wayfinderlaw03_awake.calls k  t185 _ ?sideG_ A3.out).mono ?_); (case sideG_ => exact hG.below rfl (by repeat (first | (with_reducible first | exact HB.out | apply below_alloc | apply pw_below_drewN | apply below_drew1 | refine below_set ?_ GE184.out) | exact HB.out))); rintro e w6 ⟨rfl, hb⟩; refine ⟨_, rfl, ?_⟩; have n0_ := Aside0.mk (blk_below (g := gb184) (o := .cells #[.int .i64 a0_0, .int .i64 a0_1, .int .i64 a0_2, .int .i64 a0_3, .int .i64 a0_4] 23 (0, 0)) (by (with_reducible repeat (first | refine blk_drewN ?_ _ | refine blk_drew ?_ | refine blk_alloc ?_ _)); exact BK184.out) hb); have n1_ := Aside0.mk (below_step (by repeat (first | (with_reducible first | exact HB.out | apply below_alloc | apply pw_below_drewN | apply below_drew1 | refine below_set ?_ GE184.out) | exact HB.out)) hb); clear BK184; clear HB; have BK184 := n0_; have HB := n1_; clear n0_ n1_; (try clear hb); (try clear hb2); (try clear hk); (try clear hi)))
  (try simp only [Act.put, List.setIfInBounds_toArray, List.set_cons_zero, List.set_cons_succ])
  go_cut [21] (fun v21 wc => ∃ (kq : Nat) (x21_3 : Bool), v21 = .bool x21_3 ∧ Aside0 (wayfinderlaw03_PacketMay.j0 kq a1 t185 x21_3 a0_0 a0_1 a0_2 a0_3 a0_4 = some r) ∧ Aside0 (kq ≤ k) ∧ Aside0 (wc.heap[gb184]? = some (.cells #[.int .i64 a0_0, .int .i64 a0_1, .int .i64 a0_2, .int .i64 a0_3, .int .i64 a0_4] 23 (0, 0))) ∧ Aside0 (Below w.heap.size w wc))
  case first =>
    have H := HC4.out
    clear HC4
    by_cases c7 : t185 = true
    · subst c7
      have H1 : ((packet_May.f a0_0 a0_1 a0_2 a0_3 a0_4).bind fun t186 => (if t186 = true then (wayfinderlaw03_PacketMay.j0 k a1 true (decide (a1 < 1)) a0_0 a0_1 a0_2 a0_3 a0_4) else (wayfinderlaw03_PacketMay.j0 k a1 true true a0_0 a0_1 a0_2 a0_3 a0_4))) = some r := by rw [if_pos rfl] at H; exact H
      clear H
      have H := H1
      clear H1
      replace H := Option.bind_eq_some_iff.mp H
      obtain ⟨t186, A80, H⟩ := H
      replace H : (if t186 = true then (wayfinderlaw03_PacketMay.j0 k a1 true (decide (a1 < 1)) a0_0 a0_1 a0_2 a0_3 a0_4) else (wayfinderlaw03_PacketMay.j0 k a1 true true a0_0 a0_1 a0_2 a0_3 a0_4)) = some r := H
      have A8 := Aside0.mk A80
      clear A80
      by_cases c9 : t186 = true
      · subst c9
        have H1 : (wayfinderlaw03_PacketMay.j0 k a1 true (decide (a1 < 1)) a0_0 a0_1 a0_2 a0_3 a0_4) = some r := by rw [if_pos rfl] at H; exact H
        clear H
        have H := H1
        clear H1
        have H' := Aside0.mk H
        clear H
        have hcz10_0 : w6.cell? ⟨gb184, 0, none⟩ = some (.int .i64 a0_0) := (blk_cell BK184.out 0).trans rfl
        have hcz10_1 : w6.cell? ⟨gb184, 1, none⟩ = some (.int .i64 a0_1) := (blk_cell BK184.out 1).trans rfl
        have hcz10_2 : w6.cell? ⟨gb184, 2, none⟩ = some (.int .i64 a0_2) := (blk_cell BK184.out 2).trans rfl
        have hcz10_3 : w6.cell? ⟨gb184, 3, none⟩ = some (.int .i64 a0_3) := (blk_cell BK184.out 3).trans rfl
        have hcz10_4 : w6.cell? ⟨gb184, 4, none⟩ = some (.int .i64 a0_4) := (blk_cell BK184.out 4).trans rfl
        have hfz10_0 := blk_frozen BK184.out 0
        have hfz10_1 := blk_frozen BK184.out 1
        have hfz10_2 := blk_frozen BK184.out 2
        have hfz10_3 := blk_frozen BK184.out 3
        have hfz10_4 := blk_frozen BK184.out 4
        go_wp2_with (first | (go_at_call 11; (with_reducible refine (packet_May.calls a0_0 a0_1 a0_2 a0_3 a0_4 true _ A8.out).mono ?_); rintro e w11 ⟨rfl, hb⟩; have n0_ := Aside0.mk (blk_below (g := gb184) (o := .cells #[.int .i64 a0_0, .int .i64 a0_1, .int .i64 a0_2, .int .i64 a0_3, .int .i64 a0_4] 23 (0, 0)) (by (with_reducible repeat (first | refine blk_drewN ?_ _ | refine blk_drew ?_ | refine blk_alloc ?_ _)); exact BK184.out) hb); have n1_ := Aside0.mk (below_step (by repeat (first | (with_reducible first | exact HB.out | apply below_alloc | apply pw_below_drewN | apply below_drew1 | refine below_set ?_ GE184.out) | exact HB.out)) hb); clear BK184; clear HB; have BK184 := n0_; have HB := n1_; clear n0_ n1_; (try clear hb); (try clear hb2); (try clear hk); (try clear hi)))
        go_meet
        case rel => exact ⟨_, (decide (a1 < 1)), (by first | rfl | (simp; done) | (simp [*]; done)), H', ⟨by first | omega | exact Nat.le_refl _⟩, ⟨by (with_reducible repeat (first | refine blk_drewN ?_ _ | refine blk_drew ?_ | refine blk_alloc ?_ _)); exact BK184.out⟩, ⟨by repeat (first | (with_reducible first | exact HB.out | apply below_alloc | apply pw_below_drewN | apply below_drew1 | refine below_set ?_ GE184.out) | exact HB.out)⟩⟩
      · replace c9 := Bool.eq_false_iff.mpr c9
        subst c9
        have H1 : (wayfinderlaw03_PacketMay.j0 k a1 true true a0_0 a0_1 a0_2 a0_3 a0_4) = some r := by rw [if_neg (show ¬ (false = true) by decide)] at H; exact H
        clear H
        have H := H1
        clear H1
        have H' := Aside0.mk H
        clear H
        have hcz12_0 : w6.cell? ⟨gb184, 0, none⟩ = some (.int .i64 a0_0) := (blk_cell BK184.out 0).trans rfl
        have hcz12_1 : w6.cell? ⟨gb184, 1, none⟩ = some (.int .i64 a0_1) := (blk_cell BK184.out 1).trans rfl
        have hcz12_2 : w6.cell? ⟨gb184, 2, none⟩ = some (.int .i64 a0_2) := (blk_cell BK184.out 2).trans rfl
        have hcz12_3 : w6.cell? ⟨gb184, 3, none⟩ = some (.int .i64 a0_3) := (blk_cell BK184.out 3).trans rfl
        have hcz12_4 : w6.cell? ⟨gb184, 4, none⟩ = some (.int .i64 a0_4) := (blk_cell BK184.out 4).trans rfl
        have hfz12_0 := blk_frozen BK184.out 0
        have hfz12_1 := blk_frozen BK184.out 1
        have hfz12_2 := blk_frozen BK184.out 2
        have hfz12_3 := blk_frozen BK184.out 3
        have hfz12_4 := blk_frozen BK184.out 4
        go_wp2_with (first | (go_at_call 11; (with_reducible refine (packet_May.calls a0_0 a0_1 a0_2 a0_3 a0_4 false _ A8.out).mono ?_); rintro e w13 ⟨rfl, hb⟩; have n0_ := Aside0.mk (blk_below (g := gb184) (o := .cells #[.int .i64 a0_0, .int .i64 a0_1, .int .i64 a0_2, .int .i64 a0_3, .int .i64 a0_4] 23 (0, 0)) (by (with_reducible repeat (first | refine blk_drewN ?_ _ | refine blk_drew ?_ | refine blk_alloc ?_ _)); exact BK184.out) hb); have n1_ := Aside0.mk (below_step (by repeat (first | (with_reducible first | exact HB.out | apply below_alloc | apply pw_below_drewN | apply below_drew1 | refine below_set ?_ GE184.out) | exact HB.out)) hb); clear BK184; clear HB; have BK184 := n0_; have HB := n1_; clear n0_ n1_; (try clear hb); (try clear hb2); (try clear hk); (try clear hi)))
        go_meet
        case rel => exact ⟨_, (true), (by first | rfl | (simp; done) | (simp [*]; done)), H', ⟨by first | omega | exact Nat.le_refl _⟩, ⟨by (with_reducible repeat (first | refine blk_drewN ?_ _ | refine blk_drew ?_ | refine blk_alloc ?_ _)); exact BK184.out⟩, ⟨by repeat (first | (with_reducible first | exact HB.out | apply below_alloc | apply pw_below_drewN | apply below_drew1 | refine below_set ?_ GE184.out) | exact HB.out)⟩⟩
    · replace c7 := Bool.eq_false_iff.mpr c7
      subst c7
      have H1 : (wayfinderlaw03_PacketMay.j0 k a1 false true a0_0 a0_1 a0_2 a0_3 a0_4) = some r := by rw [if_neg (show ¬ (false = true) by decide)] at H; exact H
      clear H
      have H := H1
      clear H1
      have H' := Aside0.mk H
      clear H
      go_wp2
      go_meet
      case rel => exact ⟨_, (true), (by first | rfl | (simp; done) | (simp [*]; done)), H', ⟨by first | omega | exact Nat.le_refl _⟩, ⟨by (with_reducible repeat (first | refine blk_drewN ?_ _ | refine blk_drew ?_ | refine blk_alloc ?_ _)); exact BK184.out⟩, ⟨by repeat (first | (with_reducible first | exact HB.out | apply below_alloc | apply pw_below_drewN | apply below_drew1 | refine below_set ?_ GE184.out) | exact HB.out)⟩⟩
  case rest =>
    clear HC4
    try clear p2
    try clear c4
    try clear c7
    try clear c9
    try clear hcz10_0
    try clear hcz10_1
    try clear hcz10_2
    try clear hcz10_3
    try clear hcz10_4
    try clear hcz12_0
    try clear hcz12_1
    try clear hcz12_2
    try clear hcz12_3
    try clear hcz12_4
    try clear hfz10_0
    try clear hfz10_1
    try clear hfz10_2
    try clear hfz10_3
    try clear hfz10_4
    try clear hfz12_0
    try clear hfz12_1
    try clear hfz12_2
    try clear hfz12_3
    try clear hfz12_4
    obtain ⟨kq, x21_3, rfl, HA, HJ3, BK184, HB⟩ := hcut
    cases kq with
    | zero => exact absurd HA.out (by simp [wayfinderlaw03_PacketMay.j0])
    | succ kj3 =>
      have H := HA.out
      clear HA
      simp only [wayfinderlaw03_PacketMay.j0] at H
      by_cases c14 : x21_3 = true
      · subst c14
        have H1 : (some t185) = some r := by rw [if_pos rfl] at H; exact H
        clear H
        have H := H1
        clear H1
        obtain rfl := Option.some.inj H
        go_wp2
        go_ret
        exact ⟨by first | rfl | (simp [errW_none, errW_some] <;> rfl) | (simp [*, errW_none, errW_some] <;> rfl), by repeat (first | (with_reducible first | exact HB.out | apply below_alloc | apply pw_below_drewN | apply below_drew1 | refine below_set ?_ GE184.out) | exact HB.out)⟩
      · replace c14 := Bool.eq_false_iff.mpr c14
        subst c14
        have H1 : ((some (([(⟨a0_0, a0_1, a0_2, a0_3, a0_4⟩ : S23), (⟨a0_0, a0_1, a0_2, a0_3, a0_4⟩ : S23), (⟨a0_0, a0_1, a0_2, a0_3, a0_4⟩ : S23), (⟨a0_0, a0_1, a0_2, a0_3, a0_4⟩ : S23), (⟨a0_0, a0_1, a0_2, a0_3, a0_4⟩ : S23), (⟨a0_0, a0_1, a0_2, a0_3, a0_4⟩ : S23)] : List (S23)) : List (S23))).bind fun y187 => (if 0 < (y187.length : Int) then ((some (y187.set (0 : Int).toNat (⟨wrap64 (-a1), (rd_T23 y187 0).f1, (rd_T23 y187 0).f2, (rd_T23 y187 0).f3, (rd_T23 y187 0).f4⟩ : S23) : List (S23))).bind fun y190 => (if 1 < (y187.length : Int) then ((some (y190.set (1 : Int).toNat (⟨(rd_T23 y190 1).f0, (rd_T23 y190 1).f1, (rd_T23 y190 1).f2, 17, (rd_T23 y190 1).f4⟩ : S23) : List (S23))).bind fun y191 => (if 2 < (y187.length : Int) then ((some (y191.set (2 : Int).toNat (⟨(rd_T23 y191 2).f0, (rd_T23 y191 2).f1, (rd_T23 y191 2).f2, (rd_T23 y191 2).f3, 4096⟩ : S23) : List (S23))).bind fun y192 => (if 3 < (y187.length : Int) then ((some (y192.set (3 : Int).toNat (⟨(rd_T23 y192 3).f0, (rd_T23 y192 3).f1, 4294967296, (rd_T23 y192 3).f3, (rd_T23 y192 3).f4⟩ : S23) : List (S23))).bind fun y193 => (if 4 < (y187.length : Int) then ((some (y193.set (4 : Int).toNat (⟨(rd_T23 y193 4).f0, (-1), (rd_T23 y193 4).f2, (rd_T23 y193 4).f3, (rd_T23 y193 4).f4⟩ : S23) : List (S23))).bind fun y194 => (if 5 < (y187.length : Int) then (wayfinderlaw03_PacketMay.l0 kj3 (y194.set (5 : Int).toNat (⟨(rd_T23 y194 5).f0, (rd_T23 y194 5).f1, (rd_T23 y194 5).f2, wrap64 (-a1), (rd_T23 y194 5).f4⟩ : S23)) 0) else (none))) else (none))) else (none))) else (none))) else (none))) else (none))) = some r := by rw [if_neg (show ¬ (false = true) by decide)] at H; exact H
        clear H
        have H := H1
        clear H1
        obtain ⟨y187, hy187⟩ : ∃ y_ : List (S23), y_ = (([(⟨a0_0, a0_1, a0_2, a0_3, a0_4⟩ : S23), (⟨a0_0, a0_1, a0_2, a0_3, a0_4⟩ : S23), (⟨a0_0, a0_1, a0_2, a0_3, a0_4⟩ : S23), (⟨a0_0, a0_1, a0_2, a0_3, a0_4⟩ : S23), (⟨a0_0, a0_1, a0_2, a0_3, a0_4⟩ : S23), (⟨a0_0, a0_1, a0_2, a0_3, a0_4⟩ : S23)] : List (S23))) := ⟨_, rfl⟩
        replace H : (if 0 < (y187.length : Int) then ((some (y187.set (0 : Int).toNat (⟨wrap64 (-a1), (rd_T23 y187 0).f1, (rd_T23 y187 0).f2, (rd_T23 y187 0).f3, (rd_T23 y187 0).f4⟩ : S23) : List (S23))).bind fun y190 => (if 1 < (y187.length : Int) then ((some (y190.set (1 : Int).toNat (⟨(rd_T23 y190 1).f0, (rd_T23 y190 1).f1, (rd_T23 y190 1).f2, 17, (rd_T23 y190 1).f4⟩ : S23) : List (S23))).bind fun y191 => (if 2 < (y187.length : Int) then ((some (y191.set (2 : Int).toNat (⟨(rd_T23 y191 2).f0, (rd_T23 y191 2).f1, (rd_T23 y191 2).f2, (rd_T23 y191 2).f3, 4096⟩ : S23) : List (S23))).bind fun y192 => (if 3 < (y187.length : Int) then ((some (y192.set (3 : Int).toNat (⟨(rd_T23 y192 3).f0, (rd_T23 y192 3).f1, 4294967296, (rd_T23 y192 3).f3, (rd_T23 y192 3).f4⟩ : S23) : List (S23))).bind fun y193 => (if 4 < (y187.length : Int) then ((some (y193.set (4 : Int).toNat (⟨(rd_T23 y193 4).f0, (-1), (rd_T23 y193 4).f2, (rd_T23 y193 4).f3, (rd_T23 y193 4).f4⟩ : S23) : List (S23))).bind fun y194 => (if 5 < (y187.length : Int) then (wayfinderlaw03_PacketMay.l0 kj3 (y194.set (5 : Int).toNat (⟨(rd_T23 y194 5).f0, (rd_T23 y194 5).f1, (rd_T23 y194 5).f2, wrap64 (-a1), (rd_T23 y194 5).f4⟩ : S23)) 0) else (none))) else (none))) else (none))) else (none))) else (none))) else (none)) = some r := by first | (rw [hy187]; with_reducible exact H) | (have H2_ := (Option.bind_some _ _).symm.trans H; rw [hy187]; with_reducible exact H2_) | (have H2_ := (Option.bind_some _ _).symm.trans H; with_reducible exact H2_) | with_reducible exact H | (rw [hy187]; exact H) | exact H
        have Ny187 := Aside0.mk hy187
        clear hy187
        by_cases c15 : 0 < (y187.length : Int)
        · rw [if_pos c15] at H
          have c15b0 : decide (0 < (y187.length : Int)) = true := decide_eq_true c15
          have c15b1 : decide (0 < y187.length) = true := decide_eq_true (by omega)
          clear c15
          obtain ⟨y190, hy190⟩ : ∃ y_ : List (S23), y_ = (y187.set (0 : Int).toNat (⟨wrap64 (-a1), (rd_T23 y187 0).f1, (rd_T23 y187 0).f2, (rd_T23 y187 0).f3, (rd_T23 y187 0).f4⟩ : S23)) := ⟨_, rfl⟩
          replace H : (if 1 < (y187.length : Int) then ((some (y190.set (1 : Int).toNat (⟨(rd_T23 y190 1).f0, (rd_T23 y190 1).f1, (rd_T23 y190 1).f2, 17, (rd_T23 y190 1).f4⟩ : S23) : List (S23))).bind fun y191 => (if 2 < (y187.length : Int) then ((some (y191.set (2 : Int).toNat (⟨(rd_T23 y191 2).f0, (rd_T23 y191 2).f1, (rd_T23 y191 2).f2, (rd_T23 y191 2).f3, 4096⟩ : S23) : List (S23))).bind fun y192 => (if 3 < (y187.length : Int) then ((some (y192.set (3 : Int).toNat (⟨(rd_T23 y192 3).f0, (rd_T23 y192 3).f1, 4294967296, (rd_T23 y192 3).f3, (rd_T23 y192 3).f4⟩ : S23) : List (S23))).bind fun y193 => (if 4 < (y187.length : Int) then ((some (y193.set (4 : Int).toNat (⟨(rd_T23 y193 4).f0, (-1), (rd_T23 y193 4).f2, (rd_T23 y193 4).f3, (rd_T23 y193 4).f4⟩ : S23) : List (S23))).bind fun y194 => (if 5 < (y187.length : Int) then (wayfinderlaw03_PacketMay.l0 kj3 (y194.set (5 : Int).toNat (⟨(rd_T23 y194 5).f0, (rd_T23 y194 5).f1, (rd_T23 y194 5).f2, wrap64 (-a1), (rd_T23 y194 5).f4⟩ : S23)) 0) else (none))) else (none))) else (none))) else (none))) else (none)) = some r := by first | (rw [hy190]; with_reducible exact H) | (have H2_ := (Option.bind_some _ _).symm.trans H; rw [hy190]; with_reducible exact H2_) | (have H2_ := (Option.bind_some _ _).symm.trans H; with_reducible exact H2_) | with_reducible exact H | (rw [hy190]; exact H) | exact H
          have Ny190 := Aside0.mk hy190
          clear hy190
          by_cases c17 : 1 < (y187.length : Int)
          · rw [if_pos c17] at H
            have c17b0 : decide (1 < (y187.length : Int)) = true := decide_eq_true c17
            have c17b1 : decide (1 < y187.length) = true := decide_eq_true (by omega)
            clear c17
            obtain ⟨y191, hy191⟩ : ∃ y_ : List (S23), y_ = (y190.set (1 : Int).toNat (⟨(rd_T23 y190 1).f0, (rd_T23 y190 1).f1, (rd_T23 y190 1).f2, 17, (rd_T23 y190 1).f4⟩ : S23)) := ⟨_, rfl⟩
            replace H : (if 2 < (y187.length : Int) then ((some (y191.set (2 : Int).toNat (⟨(rd_T23 y191 2).f0, (rd_T23 y191 2).f1, (rd_T23 y191 2).f2, (rd_T23 y191 2).f3, 4096⟩ : S23) : List (S23))).bind fun y192 => (if 3 < (y187.length : Int) then ((some (y192.set (3 : Int).toNat (⟨(rd_T23 y192 3).f0, (rd_T23 y192 3).f1, 4294967296, (rd_T23 y192 3).f3, (rd_T23 y192 3).f4⟩ : S23) : List (S23))).bind fun y193 => (if 4 < (y187.length : Int) then ((some (y193.set (4 : Int).toNat (⟨(rd_T23 y193 4).f0, (-1), (rd_T23 y193 4).f2, (rd_T23 y193 4).f3, (rd_T23 y193 4).f4⟩ : S23) : List (S23))).bind fun y194 => (if 5 < (y187.length : Int) then (wayfinderlaw03_PacketMay.l0 kj3 (y194.set (5 : Int).toNat (⟨(rd_T23 y194 5).f0, (rd_T23 y194 5).f1, (rd_T23 y194 5).f2, wrap64 (-a1), (rd_T23 y194 5).f4⟩ : S23)) 0) else (none))) else (none))) else (none))) else (none)) = some r := by first | (rw [hy191]; with_reducible exact H) | (have H2_ := (Option.bind_some _ _).symm.trans H; rw [hy191]; with_reducible exact H2_) | (have H2_ := (Option.bind_some _ _).symm.trans H; with_reducible exact H2_) | with_reducible exact H | (rw [hy191]; exact H) | exact H
            have Ny191 := Aside0.mk hy191
            clear hy191
            by_cases c19 : 2 < (y187.length : Int)
            · rw [if_pos c19] at H
              have c19b0 : decide (2 < (y187.length : Int)) = true := decide_eq_true c19
              have c19b1 : decide (2 < y187.length) = true := decide_eq_true (by omega)
              clear c19
              obtain ⟨y192, hy192⟩ : ∃ y_ : List (S23), y_ = (y191.set (2 : Int).toNat (⟨(rd_T23 y191 2).f0, (rd_T23 y191 2).f1, (rd_T23 y191 2).f2, (rd_T23 y191 2).f3, 4096⟩ : S23)) := ⟨_, rfl⟩
              replace H : (if 3 < (y187.length : Int) then ((some (y192.set (3 : Int).toNat (⟨(rd_T23 y192 3).f0, (rd_T23 y192 3).f1, 4294967296, (rd_T23 y192 3).f3, (rd_T23 y192 3).f4⟩ : S23) : List (S23))).bind fun y193 => (if 4 < (y187.length : Int) then ((some (y193.set (4 : Int).toNat (⟨(rd_T23 y193 4).f0, (-1), (rd_T23 y193 4).f2, (rd_T23 y193 4).f3, (rd_T23 y193 4).f4⟩ : S23) : List (S23))).bind fun y194 => (if 5 < (y187.length : Int) then (wayfinderlaw03_PacketMay.l0 kj3 (y194.set (5 : Int).toNat (⟨(rd_T23 y194 5).f0, (rd_T23 y194 5).f1, (rd_T23 y194 5).f2, wrap64 (-a1), (rd_T23 y194 5).f4⟩ : S23)) 0) else (none))) else (none))) else (none)) = some r := by first | (rw [hy192]; with_reducible exact H) | (have H2_ := (Option.bind_some _ _).symm.trans H; rw [hy192]; with_reducible exact H2_) | (have H2_ := (Option.bind_some _ _).symm.trans H; with_reducible exact H2_) | with_reducible exact H | (rw [hy192]; exact H) | exact H
              have Ny192 := Aside0.mk hy192
              clear hy192
              by_cases c21 : 3 < (y187.length : Int)
              · rw [if_pos c21] at H
                have c21b0 : decide (3 < (y187.length : Int)) = true := decide_eq_true c21
                have c21b1 : decide (3 < y187.length) = true := decide_eq_true (by omega)
                clear c21
                obtain ⟨y193, hy193⟩ : ∃ y_ : List (S23), y_ = (y192.set (3 : Int).toNat (⟨(rd_T23 y192 3).f0, (rd_T23 y192 3).f1, 4294967296, (rd_T23 y192 3).f3, (rd_T23 y192 3).f4⟩ : S23)) := ⟨_, rfl⟩
                replace H : (if 4 < (y187.length : Int) then ((some (y193.set (4 : Int).toNat (⟨(rd_T23 y193 4).f0, (-1), (rd_T23 y193 4).f2, (rd_T23 y193 4).f3, (rd_T23 y193 4).f4⟩ : S23) : List (S23))).bind fun y194 => (if 5 < (y187.length : Int) then (wayfinderlaw03_PacketMay.l0 kj3 (y194.set (5 : Int).toNat (⟨(rd_T23 y194 5).f0, (rd_T23 y194 5).f1, (rd_T23 y194 5).f2, wrap64 (-a1), (rd_T23 y194 5).f4⟩ : S23)) 0) else (none))) else (none)) = some r := by first | (rw [hy193]; with_reducible exact H) | (have H2_ := (Option.bind_some _ _).symm.trans H; rw [hy193]; with_reducible exact H2_) | (have H2_ := (Option.bind_some _ _).symm.trans H; with_reducible exact H2_) | with_reducible exact H | (rw [hy193]; exact H) | exact H
                have Ny193 := Aside0.mk hy193
                clear hy193
                by_cases c23 : 4 < (y187.length : Int)
                · rw [if_pos c23] at H
                  have c23b0 : decide (4 < (y187.length : Int)) = true := decide_eq_true c23
                  have c23b1 : decide (4 < y187.length) = true := decide_eq_true (by omega)
                  clear c23
                  obtain ⟨y194, hy194⟩ : ∃ y_ : List (S23), y_ = (y193.set (4 : Int).toNat (⟨(rd_T23 y193 4).f0, (-1), (rd_T23 y193 4).f2, (rd_T23 y193 4).f3, (rd_T23 y193 4).f4⟩ : S23)) := ⟨_, rfl⟩
                  replace H : (if 5 < (y187.length : Int) then (wayfinderlaw03_PacketMay.l0 kj3 (y194.set (5 : Int).toNat (⟨(rd_T23 y194 5).f0, (rd_T23 y194 5).f1, (rd_T23 y194 5).f2, wrap64 (-a1), (rd_T23 y194 5).f4⟩ : S23)) 0) else (none)) = some r := by first | (rw [hy194]; with_reducible exact H) | (have H2_ := (Option.bind_some _ _).symm.trans H; rw [hy194]; with_reducible exact H2_) | (have H2_ := (Option.bind_some _ _).symm.trans H; with_reducible exact H2_) | with_reducible exact H | (rw [hy194]; exact H) | exact H
                  have Ny194 := Aside0.mk hy194
                  clear hy194
                  by_cases c25 : 5 < (y187.length : Int)
                  · rw [if_pos c25] at H
                    have c25b0 : decide (5 < (y187.length : Int)) = true := decide_eq_true c25
                    have c25b1 : decide (5 < y187.length) = true := decide_eq_true (by omega)
                    clear c25
                    obtain ⟨y195, hy195⟩ : ∃ y_ : List (S23), y_ = (y194.set (5 : Int).toNat (⟨(rd_T23 y194 5).f0, (rd_T23 y194 5).f1, (rd_T23 y194 5).f2, wrap64 (-a1), (rd_T23 y194 5).f4⟩ : S23)) := ⟨_, rfl⟩
                    replace H : (wayfinderlaw03_PacketMay.l0 kj3 y195 0) = some r := by first | (rw [hy195]; with_reducible exact H) | (have H2_ := (Option.bind_some _ _).symm.trans H; rw [hy195]; with_reducible exact H2_) | (have H2_ := (Option.bind_some _ _).symm.trans H; with_reducible exact H2_) | with_reducible exact H | (rw [hy195]; exact H) | exact H
                    have Ny195 := Aside0.mk hy195
                    clear hy195
                    have H' := Aside0.mk H
                    clear H
                    have hcz27_0 : wc.cell? ⟨gb184, 0, none⟩ = some (.int .i64 a0_0) := (blk_cell BK184.out 0).trans rfl
                    have hcz27_1 : wc.cell? ⟨gb184, 1, none⟩ = some (.int .i64 a0_1) := (blk_cell BK184.out 1).trans rfl
                    have hcz27_2 : wc.cell? ⟨gb184, 2, none⟩ = some (.int .i64 a0_2) := (blk_cell BK184.out 2).trans rfl
                    have hcz27_3 : wc.cell? ⟨gb184, 3, none⟩ = some (.int .i64 a0_3) := (blk_cell BK184.out 3).trans rfl
                    have hcz27_4 : wc.cell? ⟨gb184, 4, none⟩ = some (.int .i64 a0_4) := (blk_cell BK184.out 4).trans rfl
                    have hfz27_0 := blk_frozen BK184.out 0
                    have hfz27_1 := blk_frozen BK184.out 1
                    have hfz27_2 := blk_frozen BK184.out 2
                    have hfz27_3 := blk_frozen BK184.out 3
                    have hfz27_4 := blk_frozen BK184.out 4
                    go_wp2_with (first | ((with_reducible refine gate_dst (N := 29) rfl ?_); (try (refine gate_guard (by rfl) ?_; dsimp only)); refine Kd.R_lit k23 _ 23 ?hg (N := 29) ?hd (xs := ([(⟨a0_0, a0_1, a0_2, a0_3, a0_4⟩ : S23), (⟨a0_0, a0_1, a0_2, a0_3, a0_4⟩ : S23), (⟨a0_0, a0_1, a0_2, a0_3, a0_4⟩ : S23), (⟨a0_0, a0_1, a0_2, a0_3, a0_4⟩ : S23), (⟨a0_0, a0_1, a0_2, a0_3, a0_4⟩ : S23), (⟨a0_0, a0_1, a0_2, a0_3, a0_4⟩ : S23)] : List (S23))) (inner := [.int .i64 a0_0, .int .i64 a0_1, .int .i64 a0_2, .int .i64 a0_3, .int .i64 a0_4, .int .i64 a0_0, .int .i64 a0_1, .int .i64 a0_2, .int .i64 a0_3, .int .i64 a0_4, .int .i64 a0_0, .int .i64 a0_1, .int .i64 a0_2, .int .i64 a0_3, .int .i64 a0_4, .int .i64 a0_0, .int .i64 a0_1, .int .i64 a0_2, .int .i64 a0_3, .int .i64 a0_4, .int .i64 a0_0, .int .i64 a0_1, .int .i64 a0_2, .int .i64 a0_3, .int .i64 a0_4, .int .i64 a0_0, .int .i64 a0_1, .int .i64 a0_2, .int .i64 a0_3, .int .i64 a0_4]) (ok := fun _ => True) (okp := fun _ => True) ?hr ?hp (fun _ hk => hk) trivial (Below.refl _ _) (Nat.le_refl _) (by simp) ?_; (case hd => rfl); (case hg => rfl); (case hr => first | (go_simp; done) | (go_simp; rfl)); (case hp => exact (Reps.c5 (show Kd.M k23 _ _ _ (⟨a0_0, a0_1, a0_2, a0_3, a0_4⟩ : S23) [.int .i64 a0_0, .int .i64 a0_1, .int .i64 a0_2, .int .i64 a0_3, .int .i64 a0_4] from (k23_mkM _ _ _ (⟨a0_0, a0_1, a0_2, a0_3, a0_4⟩ : S23) )) (Reps.c5 (show Kd.M k23 _ _ _ (⟨a0_0, a0_1, a0_2, a0_3, a0_4⟩ : S23) [.int .i64 a0_0, .int .i64 a0_1, .int .i64 a0_2, .int .i64 a0_3, .int .i64 a0_4] from (k23_mkM _ _ _ (⟨a0_0, a0_1, a0_2, a0_3, a0_4⟩ : S23) )) (Reps.c5 (show Kd.M k23 _ _ _ (⟨a0_0, a0_1, a0_2, a0_3, a0_4⟩ : S23) [.int .i64 a0_0, .int .i64 a0_1, .int .i64 a0_2, .int .i64 a0_3, .int .i64 a0_4] from (k23_mkM _ _ _ (⟨a0_0, a0_1, a0_2, a0_3, a0_4⟩ : S23) )) (Reps.c5 (show Kd.M k23 _ _ _ (⟨a0_0, a0_1, a0_2, a0_3, a0_4⟩ : S23) [.int .i64 a0_0, .int .i64 a0_1, .int .i64 a0_2, .int .i64 a0_3, .int .i64 a0_4] from (k23_mkM _ _ _ (⟨a0_0, a0_1, a0_2, a0_3, a0_4⟩ : S23) )) (Reps.c5 (show Kd.M k23 _ _ _ (⟨a0_0, a0_1, a0_2, a0_3, a0_4⟩ : S23) [.int .i64 a0_0, .int .i64 a0_1, .int .i64 a0_2, .int .i64 a0_3, .int .i64 a0_4] from (k23_mkM _ _ _ (⟨a0_0, a0_1, a0_2, a0_3, a0_4⟩ : S23) )) (Reps.c5 (show Kd.M k23 _ _ _ (⟨a0_0, a0_1, a0_2, a0_3, a0_4⟩ : S23) [.int .i64 a0_0, .int .i64 a0_1, .int .i64 a0_2, .int .i64 a0_3, .int .i64 a0_4] from (k23_mkM _ _ _ (⟨a0_0, a0_1, a0_2, a0_3, a0_4⟩ : S23) )) (Reps.none _ _)))))))); intro v188 w28 ho29 hb hg_ hnew_; clear hg_ hnew_; (first | rw [← Ny187.out] at ho29 | (simp only [Int.reduceToNat] at ho29; rw [← Ny187.out] at ho29)); have n0_ := Aside0.mk (Kd.R_lower (Kd.R_newB ho29 (g := gb184) (o := .cells #[.int .i64 a0_0, .int .i64 a0_1, .int .i64 a0_2, .int .i64 a0_3, .int .i64 a0_4] 23 (0, 0)) (by (with_reducible repeat (first | refine blk_drewN ?_ _ | refine blk_drew ?_ | refine blk_alloc ?_ _)); exact BK184.out)) (below_size (by repeat (first | (with_reducible first | exact HB.out | apply below_alloc | apply pw_below_drewN | apply below_drew1 | refine below_set ?_ GE184.out) | exact HB.out)))); have n1_ := Aside0.mk (blk_below (g := gb184) (o := .cells #[.int .i64 a0_0, .int .i64 a0_1, .int .i64 a0_2, .int .i64 a0_3, .int .i64 a0_4] 23 (0, 0)) (by (with_reducible repeat (first | refine blk_drewN ?_ _ | refine blk_drew ?_ | refine blk_alloc ?_ _)); exact BK184.out) hb); have n2_ := Aside0.mk (below_step (by repeat (first | (with_reducible first | exact HB.out | apply below_alloc | apply pw_below_drewN | apply below_drew1 | refine below_set ?_ GE184.out) | exact HB.out)) hb); clear BK184; clear HB; have HO189 := n0_; have BK184 := n1_; have HB := n2_; clear n0_ n1_ n2_; clear hb ho29; have p16 : 0 ≤ (0 : Int) := (by omega); have q16 : (0 : Int) < ((y187.length : Int) : Int) := of_decide_eq_true (by first | (with_reducible assumption) | assumption); have qi16 : (0 < y187.length) = True := eq_true (by omega); obtain ⟨go16, co16, eo16, gb16, gl16, cl16, HG16⟩ := Kd.R_form HO189.out (by omega); (first | cases eo16 | (injection eo16 with ea_ en_ ec_; (first | subst ea_ | (injection ea_ with ea_; subst ea_)); subst ec_; clear en_)); have GB16 := Aside0.mk gb16; have GG16 := Aside0.mk HG16; clear gb16 gl16 HG16; obtain ⟨ce16, hcl16, hM16, hcc16, hfr16⟩ := Kd.R_elem HO189.out z23 (0 : Int) p16 q16; obtain rfl := k23_openM hM16; have hx16_0 : w28.cell? ⟨go16, (0 : Int).toNat * 5, none⟩ = some (.int .i64 ((rd_T23 y187 0).f0)) := hcc16 0 _ rfl; have hx16_1 : w28.cell? ⟨go16, (0 : Int).toNat * 5 + 1, none⟩ = some (.int .i64 ((rd_T23 y187 0).f1)) := hcc16 1 _ rfl; have hx16_2 : w28.cell? ⟨go16, (0 : Int).toNat * 5 + 2, none⟩ = some (.int .i64 ((rd_T23 y187 0).f2)) := hcc16 2 _ rfl; have hx16_3 : w28.cell? ⟨go16, (0 : Int).toNat * 5 + 3, none⟩ = some (.int .i64 ((rd_T23 y187 0).f3)) := hcc16 3 _ rfl; have hx16_4 : w28.cell? ⟨go16, (0 : Int).toNat * 5 + 4, none⟩ = some (.int .i64 ((rd_T23 y187 0).f4)) := hcc16 4 _ rfl; have hf16_0 : w28.frozen? ⟨go16, (0 : Int).toNat * 5, none⟩ = false := hfr16 0; have hf16_1 : w28.frozen? ⟨go16, (0 : Int).toNat * 5 + 1, none⟩ = false := hfr16 1; have hf16_2 : w28.frozen? ⟨go16, (0 : Int).toNat * 5 + 2, none⟩ = false := hfr16 2; have hf16_3 : w28.frozen? ⟨go16, (0 : Int).toNat * 5 + 3, none⟩ = false := hfr16 3; have hf16_4 : w28.frozen? ⟨go16, (0 : Int).toNat * 5 + 4, none⟩ = false := hfr16 4; clear hcl16 hcc16 hfr16 hM16; (try rw [show ((0 : Int)).toNat = 0 from rfl] at hx16_0); (try simp only [Nat.reduceMul, Nat.zero_mul, Nat.zero_add, Nat.reduceAdd] at hx16_0); (try rw [show ((0 : Int)).toNat = 0 from rfl] at hf16_0); (try simp only [Nat.reduceMul, Nat.zero_mul, Nat.zero_add, Nat.reduceAdd] at hf16_0); (try rw [show ((0 : Int)).toNat = 0 from rfl] at hx16_1); (try simp only [Nat.reduceMul, Nat.zero_mul, Nat.zero_add, Nat.reduceAdd] at hx16_1); (try rw [show ((0 : Int)).toNat = 0 from rfl] at hf16_1); (try simp only [Nat.reduceMul, Nat.zero_mul, Nat.zero_add, Nat.reduceAdd] at hf16_1); (try rw [show ((0 : Int)).toNat = 0 from rfl] at hx16_2); (try simp only [Nat.reduceMul, Nat.zero_mul, Nat.zero_add, Nat.reduceAdd] at hx16_2); (try rw [show ((0 : Int)).toNat = 0 from rfl] at hf16_2); (try simp only [Nat.reduceMul, Nat.zero_mul, Nat.zero_add, Nat.reduceAdd] at hf16_2); (try rw [show ((0 : Int)).toNat = 0 from rfl] at hx16_3); (try simp only [Nat.reduceMul, Nat.zero_mul, Nat.zero_add, Nat.reduceAdd] at hx16_3); (try rw [show ((0 : Int)).toNat = 0 from rfl] at hf16_3); (try simp only [Nat.reduceMul, Nat.zero_mul, Nat.zero_add, Nat.reduceAdd] at hf16_3); (try rw [show ((0 : Int)).toNat = 0 from rfl] at hx16_4); (try simp only [Nat.reduceMul, Nat.zero_mul, Nat.zero_add, Nat.reduceAdd] at hx16_4); (try rw [show ((0 : Int)).toNat = 0 from rfl] at hf16_4); (try simp only [Nat.reduceMul, Nat.zero_mul, Nat.zero_add, Nat.reduceAdd] at hf16_4); replace p16 := eq_true p16; replace q16 := eq_true q16; have n_ := Aside0.mk (Kd.R_mono (ok' := (fun k_ => k_ ≠ gb184)) HO189.out (fun k_ hk => hk.2)); clear HO189; have HO189 := n_; clear n_; have HX30 := Aside0.mk (show Kd.R k23 23 w28 w.heap.size (fun k_ => k_ ≠ gb184) (.slice (some ⟨go16, 0, none⟩) y187.length co16) y187 from (by (with_reducible repeat (first | apply Kd.R_alloc | apply Kd.R_drewN | apply Kd.R_drew)); exact HO189.out)); obtain ⟨ce30, hcl30, hM30, hcc30, hfr30⟩ := Kd.R_elem HX30.out z23 (0 : Int) (by omega) (by have h_ : (0 : Int) < ((y187.length : Int) : Int) := of_decide_eq_true (by first | (with_reducible assumption) | assumption); first | exact h_ | (have e_ := (Kd.R_reads' HO189.out).1; omega) | simpa using h_); obtain rfl := k23_openM hM30; have HP30 := Kd.R_seg HX30.out (0 : Int) (by omega) (by have h_ : (0 : Int) < ((y187.length : Int) : Int) := of_decide_eq_true (by first | (with_reducible assumption) | assumption); first | exact h_ | (have e_ := (Kd.R_reads' HO189.out).1; omega) | simpa using h_) (seg := [.int .i64 (wrap64 (-a1))]) (j := 0) hcl30 hcc30 (show 1 ≤ 5 from by decide) (x' := (⟨wrap64 (-a1), (rd_T23 y187 0).f1, (rd_T23 y187 0).f2, (rd_T23 y187 0).f3, (rd_T23 y187 0).f4⟩ : S23)) (k23_mkM _ _ _ (⟨wrap64 (-a1), (rd_T23 y187 0).f1, (rd_T23 y187 0).f2, (rd_T23 y187 0).f3, (rd_T23 y187 0).f4⟩ : S23) ) (fun _ hk => hk); have hx30_0 := hcc30 0 _ rfl; (try simp only [show (k23).sz = 5 from rfl, Nat.mul_one, Nat.add_zero] at hx30_0); (try rw [show ((0 : Int)).toNat = 0 from rfl] at hx30_0); (try simp only [Nat.reduceMul, Nat.zero_mul, Nat.zero_add, Nat.reduceAdd] at hx30_0); have hf30_0 := hfr30 0; (try simp only [show (k23).sz = 5 from rfl, Nat.mul_one, Nat.add_zero] at hf30_0); (try rw [show ((0 : Int)).toNat = 0 from rfl] at hf30_0); (try simp only [Nat.reduceMul, Nat.zero_mul, Nat.zero_add, Nat.reduceAdd] at hf30_0); clear hcl30 hcc30 hfr30 hM30) | ((with_reducible refine gate_store (t := 3) (p := 34) rfl ?_); refine store_event (t := 3) (p := 34) (v := ?vo_w31) (w1 := (w28.setCell ⟨go16, 0, none⟩ (.int .i64 (wrap64 (-a1))))) ?hg ?ho ?hn ?hr ?_; (case ho => rfl); (case hg => rfl); (case hn => rfl); (case hr => first | (go_simp; done) | (go_simp; rfl)); intro w31 hw; have hg : w28.grownBy w31 (some go16) := (by rw [hw]; exact HP30.2); have hp_ : Kd.R k23 23 w31 w.heap.size (fun k_ => k_ ≠ gb184) (.slice (some ⟨go16, 0, none⟩) y187.length co16) y190 := (by rw [hw, Ny190.out]; exact HP30.1); clear HP30; have n0_ := Aside0.mk (blk_grown (g := gb184) (o := .cells #[.int .i64 a0_0, .int .i64 a0_1, .int .i64 a0_2, .int .i64 a0_3, .int .i64 a0_4] 23 (0, 0)) (by (with_reducible repeat (first | refine blk_drewN ?_ _ | refine blk_drew ?_ | refine blk_alloc ?_ _)); exact BK184.out) hg (Kd.R_away HO189.out (fun _ hk => hk))); have n1_ := Aside0.mk (hp_); have n2_ := Aside0.mk ((by rw [hw]; exact below_set (HB.out) GB16.out : Below w.heap.size w w31)); clear BK184; clear HO189; clear HB; have BK184 := n0_; have HO189 := n1_; have HB := n2_; clear n0_ n1_ n2_; clear hg hw hp_; have p18 : 0 ≤ (1 : Int) := (by omega); have q18 : (1 : Int) < ((y187.length : Int) : Int) := of_decide_eq_true (by first | (with_reducible assumption) | assumption); have qi18 : (1 < y187.length) = True := eq_true (by omega); obtain ⟨ce18, hcl18, hM18, hcc18, hfr18⟩ := Kd.R_elem HO189.out z23 (1 : Int) p18 q18; obtain rfl := k23_openM hM18; have hx18_0 : w31.cell? ⟨go16, (1 : Int).toNat * 5, none⟩ = some (.int .i64 ((rd_T23 y190 1).f0)) := hcc18 0 _ rfl; have hx18_1 : w31.cell? ⟨go16, (1 : Int).toNat * 5 + 1, none⟩ = some (.int .i64 ((rd_T23 y190 1).f1)) := hcc18 1 _ rfl; have hx18_2 : w31.cell? ⟨go16, (1 : Int).toNat * 5 + 2, none⟩ = some (.int .i64 ((rd_T23 y190 1).f2)) := hcc18 2 _ rfl; have hx18_3 : w31.cell? ⟨go16, (1 : Int).toNat * 5 + 3, none⟩ = some (.int .i64 ((rd_T23 y190 1).f3)) := hcc18 3 _ rfl; have hx18_4 : w31.cell? ⟨go16, (1 : Int).toNat * 5 + 4, none⟩ = some (.int .i64 ((rd_T23 y190 1).f4)) := hcc18 4 _ rfl; have hf18_0 : w31.frozen? ⟨go16, (1 : Int).toNat * 5, none⟩ = false := hfr18 0; have hf18_1 : w31.frozen? ⟨go16, (1 : Int).toNat * 5 + 1, none⟩ = false := hfr18 1; have hf18_2 : w31.frozen? ⟨go16, (1 : Int).toNat * 5 + 2, none⟩ = false := hfr18 2; have hf18_3 : w31.frozen? ⟨go16, (1 : Int).toNat * 5 + 3, none⟩ = false := hfr18 3; have hf18_4 : w31.frozen? ⟨go16, (1 : Int).toNat * 5 + 4, none⟩ = false := hfr18 4; clear hcl18 hcc18 hfr18 hM18; (try rw [show ((1 : Int)).toNat = 1 from rfl] at hx18_0); (try simp only [Nat.reduceMul, Nat.zero_mul, Nat.zero_add, Nat.reduceAdd] at hx18_0); (try rw [show ((1 : Int)).toNat = 1 from rfl] at hf18_0); (try simp only [Nat.reduceMul, Nat.zero_mul, Nat.zero_add, Nat.reduceAdd] at hf18_0); (try rw [show ((1 : Int)).toNat = 1 from rfl] at hx18_1); (try simp only [Nat.reduceMul, Nat.zero_mul, Nat.zero_add, Nat.reduceAdd] at hx18_1); (try rw [show ((1 : Int)).toNat = 1 from rfl] at hf18_1); (try simp only [Nat.reduceMul, Nat.zero_mul, Nat.zero_add, Nat.reduceAdd] at hf18_1); (try rw [show ((1 : Int)).toNat = 1 from rfl] at hx18_2); (try simp only [Nat.reduceMul, Nat.zero_mul, Nat.zero_add, Nat.reduceAdd] at hx18_2); (try rw [show ((1 : Int)).toNat = 1 from rfl] at hf18_2); (try simp only [Nat.reduceMul, Nat.zero_mul, Nat.zero_add, Nat.reduceAdd] at hf18_2); (try rw [show ((1 : Int)).toNat = 1 from rfl] at hx18_3); (try simp only [Nat.reduceMul, Nat.zero_mul, Nat.zero_add, Nat.reduceAdd] at hx18_3); (try rw [show ((1 : Int)).toNat = 1 from rfl] at hf18_3); (try simp only [Nat.reduceMul, Nat.zero_mul, Nat.zero_add, Nat.reduceAdd] at hf18_3); (try rw [show ((1 : Int)).toNat = 1 from rfl] at hx18_4); (try simp only [Nat.reduceMul, Nat.zero_mul, Nat.zero_add, Nat.reduceAdd] at hx18_4); (try rw [show ((1 : Int)).toNat = 1 from rfl] at hf18_4); (try simp only [Nat.reduceMul, Nat.zero_mul, Nat.zero_add, Nat.reduceAdd] at hf18_4); replace p18 := eq_true p18; replace q18 := eq_true q18; have HX32 := Aside0.mk (show Kd.R k23 23 w31 w.heap.size (fun k_ => k_ ≠ gb184) (.slice (some ⟨go16, 0, none⟩) y187.length co16) y190 from (by (with_reducible repeat (first | apply Kd.R_alloc | apply Kd.R_drewN | apply Kd.R_drew)); exact HO189.out)); obtain ⟨ce32, hcl32, hM32, hcc32, hfr32⟩ := Kd.R_elem HX32.out z23 (1 : Int) (by omega) (by have h_ : (1 : Int) < ((y187.length : Int) : Int) := of_decide_eq_true (by first | (with_reducible assumption) | assumption); first | exact h_ | (have e_ := (Kd.R_reads' HO189.out).1; omega) | simpa using h_); obtain rfl := k23_openM hM32; have HP32 := Kd.R_seg HX32.out (1 : Int) (by omega) (by have h_ : (1 : Int) < ((y187.length : Int) : Int) := of_decide_eq_true (by first | (with_reducible assumption) | assumption); first | exact h_ | (have e_ := (Kd.R_reads' HO189.out).1; omega) | simpa using h_) (seg := [.int .i64 17]) (j := 3) hcl32 hcc32 (show 4 ≤ 5 from by decide) (x' := (⟨(rd_T23 y190 1).f0, (rd_T23 y190 1).f1, (rd_T23 y190 1).f2, 17, (rd_T23 y190 1).f4⟩ : S23)) (k23_mkM _ _ _ (⟨(rd_T23 y190 1).f0, (rd_T23 y190 1).f1, (rd_T23 y190 1).f2, 17, (rd_T23 y190 1).f4⟩ : S23) ) (fun _ hk => hk); have hx32_3 := hcc32 3 _ rfl; (try simp only [show (k23).sz = 5 from rfl, Nat.mul_one, Nat.add_zero] at hx32_3); (try rw [show ((1 : Int)).toNat = 1 from rfl] at hx32_3); (try simp only [Nat.reduceMul, Nat.zero_mul, Nat.zero_add, Nat.reduceAdd] at hx32_3); have hf32_3 := hfr32 3; (try simp only [show (k23).sz = 5 from rfl, Nat.mul_one, Nat.add_zero] at hf32_3); (try rw [show ((1 : Int)).toNat = 1 from rfl] at hf32_3); (try simp only [Nat.reduceMul, Nat.zero_mul, Nat.zero_add, Nat.reduceAdd] at hf32_3); clear hcl32 hcc32 hfr32 hM32) | ((with_reducible refine gate_store (t := 3) (p := 37) rfl ?_); refine store_event (t := 3) (p := 37) (v := ?vo_w33) (w1 := (w31.setCell ⟨go16, 8, none⟩ (.int .i64 17))) ?hg ?ho ?hn ?hr ?_; (case ho => rfl); (case hg => rfl); (case hn => rfl); (case hr => first | (go_simp; done) | (go_simp; rfl)); intro w33 hw; have hg : w31.grownBy w33 (some go16) := (by rw [hw]; exact HP32.2); have hp_ : Kd.R k23 23 w33 w.heap.size (fun k_ => k_ ≠ gb184) (.slice (some ⟨go16, 0, none⟩) y187.length co16) y191 := (by rw [hw, Ny191.out]; exact HP32.1); clear HP32; have n0_ := Aside0.mk (blk_grown (g := gb184) (o := .cells #[.int .i64 a0_0, .int .i64 a0_1, .int .i64 a0_2, .int .i64 a0_3, .int .i64 a0_4] 23 (0, 0)) (by (with_reducible repeat (first | refine blk_drewN ?_ _ | refine blk_drew ?_ | refine blk_alloc ?_ _)); exact BK184.out) hg (Kd.R_away HO189.out (fun _ hk => hk))); have n1_ := Aside0.mk (hp_); have n2_ := Aside0.mk ((by rw [hw]; exact below_set (HB.out) GB16.out : Below w.heap.size w w33)); clear BK184; clear HO189; clear HB; have BK184 := n0_; have HO189 := n1_; have HB := n2_; clear n0_ n1_ n2_; clear hg hw hp_; have p20 : 0 ≤ (2 : Int) := (by omega); have q20 : (2 : Int) < ((y187.length : Int) : Int) := of_decide_eq_true (by first | (with_reducible assumption) | assumption); have qi20 : (2 < y187.length) = True := eq_true (by omega); obtain ⟨ce20, hcl20, hM20, hcc20, hfr20⟩ := Kd.R_elem HO189.out z23 (2 : Int) p20 q20; obtain rfl := k23_openM hM20; have hx20_0 : w33.cell? ⟨go16, (2 : Int).toNat * 5, none⟩ = some (.int .i64 ((rd_T23 y191 2).f0)) := hcc20 0 _ rfl; have hx20_1 : w33.cell? ⟨go16, (2 : Int).toNat * 5 + 1, none⟩ = some (.int .i64 ((rd_T23 y191 2).f1)) := hcc20 1 _ rfl; have hx20_2 : w33.cell? ⟨go16, (2 : Int).toNat * 5 + 2, none⟩ = some (.int .i64 ((rd_T23 y191 2).f2)) := hcc20 2 _ rfl; have hx20_3 : w33.cell? ⟨go16, (2 : Int).toNat * 5 + 3, none⟩ = some (.int .i64 ((rd_T23 y191 2).f3)) := hcc20 3 _ rfl; have hx20_4 : w33.cell? ⟨go16, (2 : Int).toNat * 5 + 4, none⟩ = some (.int .i64 ((rd_T23 y191 2).f4)) := hcc20 4 _ rfl; have hf20_0 : w33.frozen? ⟨go16, (2 : Int).toNat * 5, none⟩ = false := hfr20 0; have hf20_1 : w33.frozen? ⟨go16, (2 : Int).toNat * 5 + 1, none⟩ = false := hfr20 1; have hf20_2 : w33.frozen? ⟨go16, (2 : Int).toNat * 5 + 2, none⟩ = false := hfr20 2; have hf20_3 : w33.frozen? ⟨go16, (2 : Int).toNat * 5 + 3, none⟩ = false := hfr20 3; have hf20_4 : w33.frozen? ⟨go16, (2 : Int).toNat * 5 + 4, none⟩ = false := hfr20 4; clear hcl20 hcc20 hfr20 hM20; (try rw [show ((2 : Int)).toNat = 2 from rfl] at hx20_0); (try simp only [Nat.reduceMul, Nat.zero_mul, Nat.zero_add, Nat.reduceAdd] at hx20_0); (try rw [show ((2 : Int)).toNat = 2 from rfl] at hf20_0); (try simp only [Nat.reduceMul, Nat.zero_mul, Nat.zero_add, Nat.reduceAdd] at hf20_0); (try rw [show ((2 : Int)).toNat = 2 from rfl] at hx20_1); (try simp only [Nat.reduceMul, Nat.zero_mul, Nat.zero_add, Nat.reduceAdd] at hx20_1); (try rw [show ((2 : Int)).toNat = 2 from rfl] at hf20_1); (try simp only [Nat.reduceMul, Nat.zero_mul, Nat.zero_add, Nat.reduceAdd] at hf20_1); (try rw [show ((2 : Int)).toNat = 2 from rfl] at hx20_2); (try simp only [Nat.reduceMul, Nat.zero_mul, Nat.zero_add, Nat.reduceAdd] at hx20_2); (try rw [show ((2 : Int)).toNat = 2 from rfl] at hf20_2); (try simp only [Nat.reduceMul, Nat.zero_mul, Nat.zero_add, Nat.reduceAdd] at hf20_2); (try rw [show ((2 : Int)).toNat = 2 from rfl] at hx20_3); (try simp only [Nat.reduceMul, Nat.zero_mul, Nat.zero_add, Nat.reduceAdd] at hx20_3); (try rw [show ((2 : Int)).toNat = 2 from rfl] at hf20_3); (try simp only [Nat.reduceMul, Nat.zero_mul, Nat.zero_add, Nat.reduceAdd] at hf20_3); (try rw [show ((2 : Int)).toNat = 2 from rfl] at hx20_4); (try simp only [Nat.reduceMul, Nat.zero_mul, Nat.zero_add, Nat.reduceAdd] at hx20_4); (try rw [show ((2 : Int)).toNat = 2 from rfl] at hf20_4); (try simp only [Nat.reduceMul, Nat.zero_mul, Nat.zero_add, Nat.reduceAdd] at hf20_4); replace p20 := eq_true p20; replace q20 := eq_true q20; have HX34 := Aside0.mk (show Kd.R k23 23 w33 w.heap.size (fun k_ => k_ ≠ gb184) (.slice (some ⟨go16, 0, none⟩) y187.length co16) y191 from (by (with_reducible repeat (first | apply Kd.R_alloc | apply Kd.R_drewN | apply Kd.R_drew)); exact HO189.out)); obtain ⟨ce34, hcl34, hM34, hcc34, hfr34⟩ := Kd.R_elem HX34.out z23 (2 : Int) (by omega) (by have h_ : (2 : Int) < ((y187.length : Int) : Int) := of_decide_eq_true (by first | (with_reducible assumption) | assumption); first | exact h_ | (have e_ := (Kd.R_reads' HO189.out).1; omega) | simpa using h_); obtain rfl := k23_openM hM34; have HP34 := Kd.R_seg HX34.out (2 : Int) (by omega) (by have h_ : (2 : Int) < ((y187.length : Int) : Int) := of_decide_eq_true (by first | (with_reducible assumption) | assumption); first | exact h_ | (have e_ := (Kd.R_reads' HO189.out).1; omega) | simpa using h_) (seg := [.int .i64 4096]) (j := 4) hcl34 hcc34 (show 5 ≤ 5 from by decide) (x' := (⟨(rd_T23 y191 2).f0, (rd_T23 y191 2).f1, (rd_T23 y191 2).f2, (rd_T23 y191 2).f3, 4096⟩ : S23)) (k23_mkM _ _ _ (⟨(rd_T23 y191 2).f0, (rd_T23 y191 2).f1, (rd_T23 y191 2).f2, (rd_T23 y191 2).f3, 4096⟩ : S23) ) (fun _ hk => hk); have hx34_4 := hcc34 4 _ rfl; (try simp only [show (k23).sz = 5 from rfl, Nat.mul_one, Nat.add_zero] at hx34_4); (try rw [show ((2 : Int)).toNat = 2 from rfl] at hx34_4); (try simp only [Nat.reduceMul, Nat.zero_mul, Nat.zero_add, Nat.reduceAdd] at hx34_4); have hf34_4 := hfr34 4; (try simp only [show (k23).sz = 5 from rfl, Nat.mul_one, Nat.add_zero] at hf34_4); (try rw [show ((2 : Int)).toNat = 2 from rfl] at hf34_4); (try simp only [Nat.reduceMul, Nat.zero_mul, Nat.zero_add, Nat.reduceAdd] at hf34_4); clear hcl34 hcc34 hfr34 hM34) | ((with_reducible refine gate_store (t := 3) (p := 40) rfl ?_); refine store_event (t := 3) (p := 40) (v := ?vo_w35) (w1 := (w33.setCell ⟨go16, 14, none⟩ (.int .i64 4096))) ?hg ?ho ?hn ?hr ?_; (case ho => rfl); (case hg => rfl); (case hn => rfl); (case hr => first | (go_simp; done) | (go_simp; rfl)); intro w35 hw; have hg : w33.grownBy w35 (some go16) := (by rw [hw]; exact HP34.2); have hp_ : Kd.R k23 23 w35 w.heap.size (fun k_ => k_ ≠ gb184) (.slice (some ⟨go16, 0, none⟩) y187.length co16) y192 := (by rw [hw, Ny192.out]; exact HP34.1); clear HP34; have n0_ := Aside0.mk (blk_grown (g := gb184) (o := .cells #[.int .i64 a0_0, .int .i64 a0_1, .int .i64 a0_2, .int .i64 a0_3, .int .i64 a0_4] 23 (0, 0)) (by (with_reducible repeat (first | refine blk_drewN ?_ _ | refine blk_drew ?_ | refine blk_alloc ?_ _)); exact BK184.out) hg (Kd.R_away HO189.out (fun _ hk => hk))); have n1_ := Aside0.mk (hp_); have n2_ := Aside0.mk ((by rw [hw]; exact below_set (HB.out) GB16.out : Below w.heap.size w w35)); clear BK184; clear HO189; clear HB; have BK184 := n0_; have HO189 := n1_; have HB := n2_; clear n0_ n1_ n2_; clear hg hw hp_; have p22 : 0 ≤ (3 : Int) := (by omega); have q22 : (3 : Int) < ((y187.length : Int) : Int) := of_decide_eq_true (by first | (with_reducible assumption) | assumption); have qi22 : (3 < y187.length) = True := eq_true (by omega); obtain ⟨ce22, hcl22, hM22, hcc22, hfr22⟩ := Kd.R_elem HO189.out z23 (3 : Int) p22 q22; obtain rfl := k23_openM hM22; have hx22_0 : w35.cell? ⟨go16, (3 : Int).toNat * 5, none⟩ = some (.int .i64 ((rd_T23 y192 3).f0)) := hcc22 0 _ rfl; have hx22_1 : w35.cell? ⟨go16, (3 : Int).toNat * 5 + 1, none⟩ = some (.int .i64 ((rd_T23 y192 3).f1)) := hcc22 1 _ rfl; have hx22_2 : w35.cell? ⟨go16, (3 : Int).toNat * 5 + 2, none⟩ = some (.int .i64 ((rd_T23 y192 3).f2)) := hcc22 2 _ rfl; have hx22_3 : w35.cell? ⟨go16, (3 : Int).toNat * 5 + 3, none⟩ = some (.int .i64 ((rd_T23 y192 3).f3)) := hcc22 3 _ rfl; have hx22_4 : w35.cell? ⟨go16, (3 : Int).toNat * 5 + 4, none⟩ = some (.int .i64 ((rd_T23 y192 3).f4)) := hcc22 4 _ rfl; have hf22_0 : w35.frozen? ⟨go16, (3 : Int).toNat * 5, none⟩ = false := hfr22 0; have hf22_1 : w35.frozen? ⟨go16, (3 : Int).toNat * 5 + 1, none⟩ = false := hfr22 1; have hf22_2 : w35.frozen? ⟨go16, (3 : Int).toNat * 5 + 2, none⟩ = false := hfr22 2; have hf22_3 : w35.frozen? ⟨go16, (3 : Int).toNat * 5 + 3, none⟩ = false := hfr22 3; have hf22_4 : w35.frozen? ⟨go16, (3 : Int).toNat * 5 + 4, none⟩ = false := hfr22 4; clear hcl22 hcc22 hfr22 hM22; (try rw [show ((3 : Int)).toNat = 3 from rfl] at hx22_0); (try simp only [Nat.reduceMul, Nat.zero_mul, Nat.zero_add, Nat.reduceAdd] at hx22_0); (try rw [show ((3 : Int)).toNat = 3 from rfl] at hf22_0); (try simp only [Nat.reduceMul, Nat.zero_mul, Nat.zero_add, Nat.reduceAdd] at hf22_0); (try rw [show ((3 : Int)).toNat = 3 from rfl] at hx22_1); (try simp only [Nat.reduceMul, Nat.zero_mul, Nat.zero_add, Nat.reduceAdd] at hx22_1); (try rw [show ((3 : Int)).toNat = 3 from rfl] at hf22_1); (try simp only [Nat.reduceMul, Nat.zero_mul, Nat.zero_add, Nat.reduceAdd] at hf22_1); (try rw [show ((3 : Int)).toNat = 3 from rfl] at hx22_2); (try simp only [Nat.reduceMul, Nat.zero_mul, Nat.zero_add, Nat.reduceAdd] at hx22_2); (try rw [show ((3 : Int)).toNat = 3 from rfl] at hf22_2); (try simp only [Nat.reduceMul, Nat.zero_mul, Nat.zero_add, Nat.reduceAdd] at hf22_2); (try rw [show ((3 : Int)).toNat = 3 from rfl] at hx22_3); (try simp only [Nat.reduceMul, Nat.zero_mul, Nat.zero_add, Nat.reduceAdd] at hx22_3); (try rw [show ((3 : Int)).toNat = 3 from rfl] at hf22_3); (try simp only [Nat.reduceMul, Nat.zero_mul, Nat.zero_add, Nat.reduceAdd] at hf22_3); (try rw [show ((3 : Int)).toNat = 3 from rfl] at hx22_4); (try simp only [Nat.reduceMul, Nat.zero_mul, Nat.zero_add, Nat.reduceAdd] at hx22_4); (try rw [show ((3 : Int)).toNat = 3 from rfl] at hf22_4); (try simp only [Nat.reduceMul, Nat.zero_mul, Nat.zero_add, Nat.reduceAdd] at hf22_4); replace p22 := eq_true p22; replace q22 := eq_true q22; have HX36 := Aside0.mk (show Kd.R k23 23 w35 w.heap.size (fun k_ => k_ ≠ gb184) (.slice (some ⟨go16, 0, none⟩) y187.length co16) y192 from (by (with_reducible repeat (first | apply Kd.R_alloc | apply Kd.R_drewN | apply Kd.R_drew)); exact HO189.out)); obtain ⟨ce36, hcl36, hM36, hcc36, hfr36⟩ := Kd.R_elem HX36.out z23 (3 : Int) (by omega) (by have h_ : (3 : Int) < ((y187.length : Int) : Int) := of_decide_eq_true (by first | (with_reducible assumption) | assumption); first | exact h_ | (have e_ := (Kd.R_reads' HO189.out).1; omega) | simpa using h_); obtain rfl := k23_openM hM36; have HP36 := Kd.R_seg HX36.out (3 : Int) (by omega) (by have h_ : (3 : Int) < ((y187.length : Int) : Int) := of_decide_eq_true (by first | (with_reducible assumption) | assumption); first | exact h_ | (have e_ := (Kd.R_reads' HO189.out).1; omega) | simpa using h_) (seg := [.int .i64 4294967296]) (j := 2) hcl36 hcc36 (show 3 ≤ 5 from by decide) (x' := (⟨(rd_T23 y192 3).f0, (rd_T23 y192 3).f1, 4294967296, (rd_T23 y192 3).f3, (rd_T23 y192 3).f4⟩ : S23)) (k23_mkM _ _ _ (⟨(rd_T23 y192 3).f0, (rd_T23 y192 3).f1, 4294967296, (rd_T23 y192 3).f3, (rd_T23 y192 3).f4⟩ : S23) ) (fun _ hk => hk); have hx36_2 := hcc36 2 _ rfl; (try simp only [show (k23).sz = 5 from rfl, Nat.mul_one, Nat.add_zero] at hx36_2); (try rw [show ((3 : Int)).toNat = 3 from rfl] at hx36_2); (try simp only [Nat.reduceMul, Nat.zero_mul, Nat.zero_add, Nat.reduceAdd] at hx36_2); have hf36_2 := hfr36 2; (try simp only [show (k23).sz = 5 from rfl, Nat.mul_one, Nat.add_zero] at hf36_2); (try rw [show ((3 : Int)).toNat = 3 from rfl] at hf36_2); (try simp only [Nat.reduceMul, Nat.zero_mul, Nat.zero_add, Nat.reduceAdd] at hf36_2); clear hcl36 hcc36 hfr36 hM36) | ((with_reducible refine gate_store (t := 3) (p := 43) rfl ?_); refine store_event (t := 3) (p := 43) (v := ?vo_w37) (w1 := (w35.setCell ⟨go16, 17, none⟩ (.int .i64 4294967296))) ?hg ?ho ?hn ?hr ?_; (case ho => rfl); (case hg => rfl); (case hn => rfl); (case hr => first | (go_simp; done) | (go_simp; rfl)); intro w37 hw; have hg : w35.grownBy w37 (some go16) := (by rw [hw]; exact HP36.2); have hp_ : Kd.R k23 23 w37 w.heap.size (fun k_ => k_ ≠ gb184) (.slice (some ⟨go16, 0, none⟩) y187.length co16) y193 := (by rw [hw, Ny193.out]; exact HP36.1); clear HP36; have n0_ := Aside0.mk (blk_grown (g := gb184) (o := .cells #[.int .i64 a0_0, .int .i64 a0_1, .int .i64 a0_2, .int .i64 a0_3, .int .i64 a0_4] 23 (0, 0)) (by (with_reducible repeat (first | refine blk_drewN ?_ _ | refine blk_drew ?_ | refine blk_alloc ?_ _)); exact BK184.out) hg (Kd.R_away HO189.out (fun _ hk => hk))); have n1_ := Aside0.mk (hp_); have n2_ := Aside0.mk ((by rw [hw]; exact below_set (HB.out) GB16.out : Below w.heap.size w w37)); clear BK184; clear HO189; clear HB; have BK184 := n0_; have HO189 := n1_; have HB := n2_; clear n0_ n1_ n2_; clear hg hw hp_; have p24 : 0 ≤ (4 : Int) := (by omega); have q24 : (4 : Int) < ((y187.length : Int) : Int) := of_decide_eq_true (by first | (with_reducible assumption) | assumption); have qi24 : (4 < y187.length) = True := eq_true (by omega); obtain ⟨ce24, hcl24, hM24, hcc24, hfr24⟩ := Kd.R_elem HO189.out z23 (4 : Int) p24 q24; obtain rfl := k23_openM hM24; have hx24_0 : w37.cell? ⟨go16, (4 : Int).toNat * 5, none⟩ = some (.int .i64 ((rd_T23 y193 4).f0)) := hcc24 0 _ rfl; have hx24_1 : w37.cell? ⟨go16, (4 : Int).toNat * 5 + 1, none⟩ = some (.int .i64 ((rd_T23 y193 4).f1)) := hcc24 1 _ rfl; have hx24_2 : w37.cell? ⟨go16, (4 : Int).toNat * 5 + 2, none⟩ = some (.int .i64 ((rd_T23 y193 4).f2)) := hcc24 2 _ rfl; have hx24_3 : w37.cell? ⟨go16, (4 : Int).toNat * 5 + 3, none⟩ = some (.int .i64 ((rd_T23 y193 4).f3)) := hcc24 3 _ rfl; have hx24_4 : w37.cell? ⟨go16, (4 : Int).toNat * 5 + 4, none⟩ = some (.int .i64 ((rd_T23 y193 4).f4)) := hcc24 4 _ rfl; have hf24_0 : w37.frozen? ⟨go16, (4 : Int).toNat * 5, none⟩ = false := hfr24 0; have hf24_1 : w37.frozen? ⟨go16, (4 : Int).toNat * 5 + 1, none⟩ = false := hfr24 1; have hf24_2 : w37.frozen? ⟨go16, (4 : Int).toNat * 5 + 2, none⟩ = false := hfr24 2; have hf24_3 : w37.frozen? ⟨go16, (4 : Int).toNat * 5 + 3, none⟩ = false := hfr24 3; have hf24_4 : w37.frozen? ⟨go16, (4 : Int).toNat * 5 + 4, none⟩ = false := hfr24 4; clear hcl24 hcc24 hfr24 hM24; (try rw [show ((4 : Int)).toNat = 4 from rfl] at hx24_0); (try simp only [Nat.reduceMul, Nat.zero_mul, Nat.zero_add, Nat.reduceAdd] at hx24_0); (try rw [show ((4 : Int)).toNat = 4 from rfl] at hf24_0); (try simp only [Nat.reduceMul, Nat.zero_mul, Nat.zero_add, Nat.reduceAdd] at hf24_0); (try rw [show ((4 : Int)).toNat = 4 from rfl] at hx24_1); (try simp only [Nat.reduceMul, Nat.zero_mul, Nat.zero_add, Nat.reduceAdd] at hx24_1); (try rw [show ((4 : Int)).toNat = 4 from rfl] at hf24_1); (try simp only [Nat.reduceMul, Nat.zero_mul, Nat.zero_add, Nat.reduceAdd] at hf24_1); (try rw [show ((4 : Int)).toNat = 4 from rfl] at hx24_2); (try simp only [Nat.reduceMul, Nat.zero_mul, Nat.zero_add, Nat.reduceAdd] at hx24_2); (try rw [show ((4 : Int)).toNat = 4 from rfl] at hf24_2); (try simp only [Nat.reduceMul, Nat.zero_mul, Nat.zero_add, Nat.reduceAdd] at hf24_2); (try rw [show ((4 : Int)).toNat = 4 from rfl] at hx24_3); (try simp only [Nat.reduceMul, Nat.zero_mul, Nat.zero_add, Nat.reduceAdd] at hx24_3); (try rw [show ((4 : Int)).toNat = 4 from rfl] at hf24_3); (try simp only [Nat.reduceMul, Nat.zero_mul, Nat.zero_add, Nat.reduceAdd] at hf24_3); (try rw [show ((4 : Int)).toNat = 4 from rfl] at hx24_4); (try simp only [Nat.reduceMul, Nat.zero_mul, Nat.zero_add, Nat.reduceAdd] at hx24_4); (try rw [show ((4 : Int)).toNat = 4 from rfl] at hf24_4); (try simp only [Nat.reduceMul, Nat.zero_mul, Nat.zero_add, Nat.reduceAdd] at hf24_4); replace p24 := eq_true p24; replace q24 := eq_true q24; have HX38 := Aside0.mk (show Kd.R k23 23 w37 w.heap.size (fun k_ => k_ ≠ gb184) (.slice (some ⟨go16, 0, none⟩) y187.length co16) y193 from (by (with_reducible repeat (first | apply Kd.R_alloc | apply Kd.R_drewN | apply Kd.R_drew)); exact HO189.out)); obtain ⟨ce38, hcl38, hM38, hcc38, hfr38⟩ := Kd.R_elem HX38.out z23 (4 : Int) (by omega) (by have h_ : (4 : Int) < ((y187.length : Int) : Int) := of_decide_eq_true (by first | (with_reducible assumption) | assumption); first | exact h_ | (have e_ := (Kd.R_reads' HO189.out).1; omega) | simpa using h_); obtain rfl := k23_openM hM38; have HP38 := Kd.R_seg HX38.out (4 : Int) (by omega) (by have h_ : (4 : Int) < ((y187.length : Int) : Int) := of_decide_eq_true (by first | (with_reducible assumption) | assumption); first | exact h_ | (have e_ := (Kd.R_reads' HO189.out).1; omega) | simpa using h_) (seg := [.int .i64 (-1)]) (j := 1) hcl38 hcc38 (show 2 ≤ 5 from by decide) (x' := (⟨(rd_T23 y193 4).f0, (-1), (rd_T23 y193 4).f2, (rd_T23 y193 4).f3, (rd_T23 y193 4).f4⟩ : S23)) (k23_mkM _ _ _ (⟨(rd_T23 y193 4).f0, (-1), (rd_T23 y193 4).f2, (rd_T23 y193 4).f3, (rd_T23 y193 4).f4⟩ : S23) ) (fun _ hk => hk); have hx38_1 := hcc38 1 _ rfl; (try simp only [show (k23).sz = 5 from rfl, Nat.mul_one, Nat.add_zero] at hx38_1); (try rw [show ((4 : Int)).toNat = 4 from rfl] at hx38_1); (try simp only [Nat.reduceMul, Nat.zero_mul, Nat.zero_add, Nat.reduceAdd] at hx38_1); have hf38_1 := hfr38 1; (try simp only [show (k23).sz = 5 from rfl, Nat.mul_one, Nat.add_zero] at hf38_1); (try rw [show ((4 : Int)).toNat = 4 from rfl] at hf38_1); (try simp only [Nat.reduceMul, Nat.zero_mul, Nat.zero_add, Nat.reduceAdd] at hf38_1); clear hcl38 hcc38 hfr38 hM38) | ((with_reducible refine gate_store (t := 3) (p := 46) rfl ?_); refine store_event (t := 3) (p := 46) (v := ?vo_w39) (w1 := (w37.setCell ⟨go16, 21, none⟩ (.int .i64 (-1)))) ?hg ?ho ?hn ?hr ?_; (case ho => rfl); (case hg => rfl); (case hn => rfl); (case hr => first | (go_simp; done) | (go_simp; rfl)); intro w39 hw; have hg : w37.grownBy w39 (some go16) := (by rw [hw]; exact HP38.2); have hp_ : Kd.R k23 23 w39 w.heap.size (fun k_ => k_ ≠ gb184) (.slice (some ⟨go16, 0, none⟩) y187.length co16) y194 := (by rw [hw, Ny194.out]; exact HP38.1); clear HP38; have n0_ := Aside0.mk (blk_grown (g := gb184) (o := .cells #[.int .i64 a0_0, .int .i64 a0_1, .int .i64 a0_2, .int .i64 a0_3, .int .i64 a0_4] 23 (0, 0)) (by (with_reducible repeat (first | refine blk_drewN ?_ _ | refine blk_drew ?_ | refine blk_alloc ?_ _)); exact BK184.out) hg (Kd.R_away HO189.out (fun _ hk => hk))); have n1_ := Aside0.mk (hp_); have n2_ := Aside0.mk ((by rw [hw]; exact below_set (HB.out) GB16.out : Below w.heap.size w w39)); clear BK184; clear HO189; clear HB; have BK184 := n0_; have HO189 := n1_; have HB := n2_; clear n0_ n1_ n2_; clear hg hw hp_; have p26 : 0 ≤ (5 : Int) := (by omega); have q26 : (5 : Int) < ((y187.length : Int) : Int) := of_decide_eq_true (by first | (with_reducible assumption) | assumption); have qi26 : (5 < y187.length) = True := eq_true (by omega); obtain ⟨ce26, hcl26, hM26, hcc26, hfr26⟩ := Kd.R_elem HO189.out z23 (5 : Int) p26 q26; obtain rfl := k23_openM hM26; have hx26_0 : w39.cell? ⟨go16, (5 : Int).toNat * 5, none⟩ = some (.int .i64 ((rd_T23 y194 5).f0)) := hcc26 0 _ rfl; have hx26_1 : w39.cell? ⟨go16, (5 : Int).toNat * 5 + 1, none⟩ = some (.int .i64 ((rd_T23 y194 5).f1)) := hcc26 1 _ rfl; have hx26_2 : w39.cell? ⟨go16, (5 : Int).toNat * 5 + 2, none⟩ = some (.int .i64 ((rd_T23 y194 5).f2)) := hcc26 2 _ rfl; have hx26_3 : w39.cell? ⟨go16, (5 : Int).toNat * 5 + 3, none⟩ = some (.int .i64 ((rd_T23 y194 5).f3)) := hcc26 3 _ rfl; have hx26_4 : w39.cell? ⟨go16, (5 : Int).toNat * 5 + 4, none⟩ = some (.int .i64 ((rd_T23 y194 5).f4)) := hcc26 4 _ rfl; have hf26_0 : w39.frozen? ⟨go16, (5 : Int).toNat * 5, none⟩ = false := hfr26 0; have hf26_1 : w39.frozen? ⟨go16, (5 : Int).toNat * 5 + 1, none⟩ = false := hfr26 1; have hf26_2 : w39.frozen? ⟨go16, (5 : Int).toNat * 5 + 2, none⟩ = false := hfr26 2; have hf26_3 : w39.frozen? ⟨go16, (5 : Int).toNat * 5 + 3, none⟩ = false := hfr26 3; have hf26_4 : w39.frozen? ⟨go16, (5 : Int).toNat * 5 + 4, none⟩ = false := hfr26 4; clear hcl26 hcc26 hfr26 hM26; (try rw [show ((5 : Int)).toNat = 5 from rfl] at hx26_0); (try simp only [Nat.reduceMul, Nat.zero_mul, Nat.zero_add, Nat.reduceAdd] at hx26_0); (try rw [show ((5 : Int)).toNat = 5 from rfl] at hf26_0); (try simp only [Nat.reduceMul, Nat.zero_mul, Nat.zero_add, Nat.reduceAdd] at hf26_0); (try rw [show ((5 : Int)).toNat = 5 from rfl] at hx26_1); (try simp only [Nat.reduceMul, Nat.zero_mul, Nat.zero_add, Nat.reduceAdd] at hx26_1); (try rw [show ((5 : Int)).toNat = 5 from rfl] at hf26_1); (try simp only [Nat.reduceMul, Nat.zero_mul, Nat.zero_add, Nat.reduceAdd] at hf26_1); (try rw [show ((5 : Int)).toNat = 5 from rfl] at hx26_2); (try simp only [Nat.reduceMul, Nat.zero_mul, Nat.zero_add, Nat.reduceAdd] at hx26_2); (try rw [show ((5 : Int)).toNat = 5 from rfl] at hf26_2); (try simp only [Nat.reduceMul, Nat.zero_mul, Nat.zero_add, Nat.reduceAdd] at hf26_2); (try rw [show ((5 : Int)).toNat = 5 from rfl] at hx26_3); (try simp only [Nat.reduceMul, Nat.zero_mul, Nat.zero_add, Nat.reduceAdd] at hx26_3); (try rw [show ((5 : Int)).toNat = 5 from rfl] at hf26_3); (try simp only [Nat.reduceMul, Nat.zero_mul, Nat.zero_add, Nat.reduceAdd] at hf26_3); (try rw [show ((5 : Int)).toNat = 5 from rfl] at hx26_4); (try simp only [Nat.reduceMul, Nat.zero_mul, Nat.zero_add, Nat.reduceAdd] at hx26_4); (try rw [show ((5 : Int)).toNat = 5 from rfl] at hf26_4); (try simp only [Nat.reduceMul, Nat.zero_mul, Nat.zero_add, Nat.reduceAdd] at hf26_4); replace p26 := eq_true p26; replace q26 := eq_true q26; have HX40 := Aside0.mk (show Kd.R k23 23 w39 w.heap.size (fun k_ => k_ ≠ gb184) (.slice (some ⟨go16, 0, none⟩) y187.length co16) y194 from (by (with_reducible repeat (first | apply Kd.R_alloc | apply Kd.R_drewN | apply Kd.R_drew)); exact HO189.out)); obtain ⟨ce40, hcl40, hM40, hcc40, hfr40⟩ := Kd.R_elem HX40.out z23 (5 : Int) (by omega) (by have h_ : (5 : Int) < ((y187.length : Int) : Int) := of_decide_eq_true (by first | (with_reducible assumption) | assumption); first | exact h_ | (have e_ := (Kd.R_reads' HO189.out).1; omega) | simpa using h_); obtain rfl := k23_openM hM40; have HP40 := Kd.R_seg HX40.out (5 : Int) (by omega) (by have h_ : (5 : Int) < ((y187.length : Int) : Int) := of_decide_eq_true (by first | (with_reducible assumption) | assumption); first | exact h_ | (have e_ := (Kd.R_reads' HO189.out).1; omega) | simpa using h_) (seg := [.int .i64 (wrap64 (-a1))]) (j := 3) hcl40 hcc40 (show 4 ≤ 5 from by decide) (x' := (⟨(rd_T23 y194 5).f0, (rd_T23 y194 5).f1, (rd_T23 y194 5).f2, wrap64 (-a1), (rd_T23 y194 5).f4⟩ : S23)) (k23_mkM _ _ _ (⟨(rd_T23 y194 5).f0, (rd_T23 y194 5).f1, (rd_T23 y194 5).f2, wrap64 (-a1), (rd_T23 y194 5).f4⟩ : S23) ) (fun _ hk => hk); have hx40_3 := hcc40 3 _ rfl; (try simp only [show (k23).sz = 5 from rfl, Nat.mul_one, Nat.add_zero] at hx40_3); (try rw [show ((5 : Int)).toNat = 5 from rfl] at hx40_3); (try simp only [Nat.reduceMul, Nat.zero_mul, Nat.zero_add, Nat.reduceAdd] at hx40_3); have hf40_3 := hfr40 3; (try simp only [show (k23).sz = 5 from rfl, Nat.mul_one, Nat.add_zero] at hf40_3); (try rw [show ((5 : Int)).toNat = 5 from rfl] at hf40_3); (try simp only [Nat.reduceMul, Nat.zero_mul, Nat.zero_add, Nat.reduceAdd] at hf40_3); clear hcl40 hcc40 hfr40 hM40) | ((with_reducible refine gate_store (t := 3) (p := 51) rfl ?_); refine store_event (t := 3) (p := 51) (v := ?vo_w41) (w1 := (w39.setCell ⟨go16, 28, none⟩ (.int .i64 (wrap64 (-a1))))) ?hg ?ho ?hn ?hr ?_; (case ho => rfl); (case hg => rfl); (case hn => rfl); (case hr => first | (go_simp; done) | (go_simp; rfl)); intro w41 hw; have hg : w39.grownBy w41 (some go16) := (by rw [hw]; exact HP40.2); have hp_ : Kd.R k23 23 w41 w.heap.size (fun k_ => k_ ≠ gb184) (.slice (some ⟨go16, 0, none⟩) y187.length co16) y195 := (by rw [hw, Ny195.out]; exact HP40.1); clear HP40; have n0_ := Aside0.mk (blk_grown (g := gb184) (o := .cells #[.int .i64 a0_0, .int .i64 a0_1, .int .i64 a0_2, .int .i64 a0_3, .int .i64 a0_4] 23 (0, 0)) (by (with_reducible repeat (first | refine blk_drewN ?_ _ | refine blk_drew ?_ | refine blk_alloc ?_ _)); exact BK184.out) hg (Kd.R_away HO189.out (fun _ hk => hk))); have n1_ := Aside0.mk (hp_); have n2_ := Aside0.mk ((by rw [hw]; exact below_set (HB.out) GB16.out : Below w.heap.size w w41)); clear BK184; clear HO189; clear HB; have BK184 := n0_; have HO189 := n1_; have HB := n2_; clear n0_ n1_ n2_; clear hg hw hp_))
                    go_loopg [7] kj3 (fun kq v7 w' => ∃ (x7_2 : Int), v7 = .int .i64 x7_2 ∧ Aside0 (wayfinderlaw03_PacketMay.l0 kq y195 x7_2 = some r) ∧ Aside0 (kq ≤ kj3) ∧ Aside0 (Kd.R k23 23 w' w.heap.size (fun k_ => k_ ≠ gb184) (.slice (some ⟨go16, 0, none⟩) y187.length co16) y195) ∧ Aside0 (w'.heap[gb184]? = some (.cells #[.int .i64 a0_0, .int .i64 a0_1, .int .i64 a0_2, .int .i64 a0_3, .int .i64 a0_4] 23 (0, 0))) ∧ Aside0 (Below w.heap.size w w'))
                    case atStart => exact ⟨(0), (by first | rfl | (simp; done) | (simp [*]; done)), H', ⟨Nat.le_refl _⟩, ⟨by (with_reducible repeat (first | apply Kd.R_alloc | apply Kd.R_drewN | apply Kd.R_drew)); exact HO189.out⟩, ⟨by (with_reducible repeat (first | refine blk_drewN ?_ _ | refine blk_drew ?_ | refine blk_alloc ?_ _)); exact BK184.out⟩, ⟨by repeat (first | (with_reducible first | exact HB.out | apply below_alloc | apply pw_below_drewN | apply below_drew1 | refine below_set ?_ GE184.out) | exact HB.out)⟩⟩
                    case round =>
                      clear H'
                      try clear c1
                      try clear p1
                      try clear q1
                      try clear hx1
                      try clear qi1
                      try clear c2
                      try clear p2
                      try clear q2
                      try clear hx2
                      try clear qi2
                      try clear hf2
                      try clear c3
                      try clear hx3
                      try clear hf3
                      try clear c4
                      try clear hx4
                      try clear hf4
                      try clear c5
                      try clear p6
                      try clear c7
                      try clear c9
                      try clear c14
                      try clear c15
                      try clear c15b0
                      try clear c15b1
                      try clear c16
                      try clear p16
                      try clear q16
                      try clear hx16
                      try clear qi16
                      try clear hf16
                      try clear c17
                      try clear c17b0
                      try clear c17b1
                      try clear c18
                      try clear p18
                      try clear q18
                      try clear hx18
                      try clear qi18
                      try clear hf18
                      try clear c19
                      try clear c19b0
                      try clear c19b1
                      try clear c20
                      try clear p20
                      try clear q20
                      try clear hx20
                      try clear qi20
                      try clear hf20
                      try clear c21
                      try clear c21b0
                      try clear c21b1
                      try clear c22
                      try clear p22
                      try clear q22
                      try clear hx22
                      try clear qi22
                      try clear hf22
                      try clear c23
                      try clear c23b0
                      try clear c23b1
                      try clear c24
                      try clear p24
                      try clear q24
                      try clear hx24
                      try clear qi24
                      try clear hf24
                      try clear c25
                      try clear c25b0
                      try clear c25b1
                      try clear c26
                      try clear p26
                      try clear q26
                      try clear hx26
                      try clear qi26
                      try clear hf26
                      try clear c30
                      try clear hx30
                      try clear hf30
                      try clear c32
                      try clear hx32
                      try clear hf32
                      try clear c34
                      try clear hx34
                      try clear hf34
                      try clear c36
                      try clear hx36
                      try clear hf36
                      try clear c38
                      try clear hx38
                      try clear hf38
                      try clear c40
                      try clear hx40
                      try clear hf40
                      try clear hcz10_0
                      try clear hcz10_1
                      try clear hcz10_2
                      try clear hcz10_3
                      try clear hcz10_4
                      try clear hcz12_0
                      try clear hcz12_1
                      try clear hcz12_2
                      try clear hcz12_3
                      try clear hcz12_4
                      try clear hcz27_0
                      try clear hcz27_1
                      try clear hcz27_2
                      try clear hcz27_3
                      try clear hcz27_4
                      try clear hfz10_0
                      try clear hfz10_1
                      try clear hfz10_2
                      try clear hfz10_3
                      try clear hfz10_4
                      try clear hfz12_0
                      try clear hfz12_1
                      try clear hfz12_2
                      try clear hfz12_3
                      try clear hfz12_4
                      try clear hfz27_0
                      try clear hfz27_1
                      try clear hfz27_2
                      try clear hfz27_3
                      try clear hfz27_4
                      try clear hx16_0
                      try clear hx16_1
                      try clear hx16_2
                      try clear hx16_3
                      try clear hx16_4
                      try clear hx18_0
                      try clear hx18_1
                      try clear hx18_2
                      try clear hx18_3
                      try clear hx18_4
                      try clear hx20_0
                      try clear hx20_1
                      try clear hx20_2
                      try clear hx20_3
                      try clear hx20_4
                      try clear hx22_0
                      try clear hx22_1
                      try clear hx22_2
                      try clear hx22_3
                      try clear hx22_4
                      try clear hx24_0
                      try clear hx24_1
                      try clear hx24_2
                      try clear hx24_3
                      try clear hx24_4
                      try clear hx26_0
                      try clear hx26_1
                      try clear hx26_2
                      try clear hx26_3
                      try clear hx26_4
                      try clear hx30_0
                      try clear hx32_3
                      try clear hx34_4
                      try clear hx36_2
                      try clear hx38_1
                      try clear hx40_3
                      try clear p16
                      try clear p18
                      try clear p2
                      try clear p20
                      try clear p22
                      try clear p24
                      try clear p26
                      try clear q16
                      try clear q18
                      try clear q20
                      try clear q22
                      try clear q24
                      try clear q26
                      obtain ⟨x7_2, rfl, HA, HK2, HO_6, BK184, HB⟩ := hrel
                      have hl6_2 := (Kd.R_reads' HO_6.out).1
                      rw [hl6_2] at HO_6
                      (try simp only [hl6_2])
                      (try simp only [hl6_2] at BK184)
                      cases gk with
                      | zero => exact absurd HA.out (by simp [wayfinderlaw03_PacketMay.l0])
                      | succ k2 =>
                        have H := HA.out
                        clear HA
                        simp only [wayfinderlaw03_PacketMay.l0] at H
                        by_cases c42 : x7_2 < (y195.length : Int)
                        · rw [if_pos c42] at H
                          have c42b0 : decide (x7_2 < (y195.length : Int)) = true := decide_eq_true c42
                          clear c42
                          by_cases c43 : 0 ≤ x7_2
                          · rw [if_pos c43] at H
                            have c43b0 : decide (0 ≤ x7_2) = true := decide_eq_true c43
                            clear c43
                            replace H := Option.bind_eq_some_iff.mp H
                            obtain ⟨⟨t197, t200⟩, A440, H⟩ := H
                            replace H : ((packet_May.f ((rd_T23 y195 x7_2).f0) ((rd_T23 y195 x7_2).f1) ((rd_T23 y195 x7_2).f2) ((rd_T23 y195 x7_2).f3) ((rd_T23 y195 x7_2).f4)).bind fun t202 => (if t202 = true then (none) else (if t200 = 1 then (if (t197.length : Int) = 0 then (wayfinderlaw03_PacketMay.l0 k2 y195 (wrap64 (x7_2 + 1))) else (none)) else (none)))) = some r := H
                            have A44 := Aside0.mk A440
                            clear A440
                            replace H := Option.bind_eq_some_iff.mp H
                            obtain ⟨t202, A450, H⟩ := H
                            replace H : (if t202 = true then (none) else (if t200 = 1 then (if (t197.length : Int) = 0 then (wayfinderlaw03_PacketMay.l0 k2 y195 (wrap64 (x7_2 + 1))) else (none)) else (none))) = some r := H
                            have A45 := Aside0.mk A450
                            clear A450
                            by_cases c46 : t202 = true
                            · subst c46
                              have H1 : (none) = some r := by rw [if_pos rfl] at H; exact H
                              clear H
                              have H := H1
                              clear H1
                              exact absurd H (by simp)
                            · replace c46 := Bool.eq_false_iff.mpr c46
                              subst c46
                              have H1 : (if t200 = 1 then (if (t197.length : Int) = 0 then (wayfinderlaw03_PacketMay.l0 k2 y195 (wrap64 (x7_2 + 1))) else (none)) else (none)) = some r := by rw [if_neg (show ¬ (false = true) by decide)] at H; exact H
                              clear H
                              have H := H1
                              clear H1
                              by_cases c47 : t200 = 1
                              · rw [if_pos c47] at H
                                have c47b0 : (t200 == 1) = true := beq_iff_eq.mpr c47
                                have c47b1 : (t200 != 1) = false := bne_eq_false_iff_eq.mpr c47
                                clear c47
                                by_cases c48 : (t197.length : Int) = 0
                                · rw [if_pos c48] at H
                                  have c48b0 : ((t197.length : Int) == 0) = true := beq_iff_eq.mpr c48
                                  have c48b1 : ((t197.length : Int) != 0) = false := bne_eq_false_iff_eq.mpr c48
                                  clear c48
                                  have H' := Aside0.mk H
                                  clear H
                                  have p196 : 0 ≤ (x7_2 : Int) := of_decide_eq_true (by first | (with_reducible assumption) | assumption)
                                  have q196 : x7_2 < (y195.length : Int) := of_decide_eq_true (by first | (with_reducible assumption) | assumption)
                                  obtain ⟨ad196, e196, hx196_0, hx196_1, hx196_2, hx196_3, hx196_4⟩ := at_T23 (Kd.R_reads' HO_6.out).2.2 x7_2 p196 q196
                                  obtain rfl : (⟨go16, 0, none⟩ : Addr) = ad196 := (by injection e196)
                                  (first | simp only [add_plain] at hx196_0 | simp only [add_at] at hx196_0 | simp only [Addr.add, Nat.zero_add] at hx196_0 | skip)
                                  (first | simp only [add_plain] at hx196_1 | simp only [add_at] at hx196_1 | simp only [Addr.add, Nat.zero_add] at hx196_1 | skip)
                                  (first | simp only [add_plain] at hx196_2 | simp only [add_at] at hx196_2 | simp only [Addr.add, Nat.zero_add] at hx196_2 | skip)
                                  (first | simp only [add_plain] at hx196_3 | simp only [add_at] at hx196_3 | simp only [Addr.add, Nat.zero_add] at hx196_3 | skip)
                                  (first | simp only [add_plain] at hx196_4 | simp only [add_at] at hx196_4 | simp only [Addr.add, Nat.zero_add] at hx196_4 | skip)
                                  replace p196 := eq_true p196
                                  replace q196 := eq_true q196
                                  go_wp2_with (first | ((with_reducible refine gate_callee (f := 10) rfl ?_); refine goesL_ (some 63) rfl rfl Tryd.func10 (by kernel_rfl) rfl #[.agg #[.int .i64 ((rd_T23 y195 x7_2).f0), .int .i64 ((rd_T23 y195 x7_2).f1), .int .i64 ((rd_T23 y195 x7_2).f2), .int .i64 ((rd_T23 y195 x7_2).f3), .int .i64 ((rd_T23 y195 x7_2).f4)]] rfl (by (try simp only [List.map_toArray, List.map_cons, List.map_nil]); first | done | rfl | (simp only [List.length_drop, List.length_take]; rfl)) ?_; (with_reducible refine (packet_Put.calls k2 ((rd_T23 y195 x7_2).f0) ((rd_T23 y195 x7_2).f1) ((rd_T23 y195 x7_2).f2) ((rd_T23 y195 x7_2).f3) ((rd_T23 y195 x7_2).f4) t197 t200 _ ?sideG_ A44.out).mono ?_); (case sideG_ => exact hG.below rfl (by repeat (first | (with_reducible first | exact HB.out | apply below_alloc | apply pw_below_drewN | apply below_drew1 | refine below_set ?_ GE184.out) | exact HB.out))); rintro e w49 ⟨v198, rfl, ho0, hb⟩; refine ⟨_, rfl, ?_⟩; have n0_ := Aside0.mk (Kd.R_below (by (with_reducible repeat (first | apply Kd.R_alloc | apply Kd.R_drewN | apply Kd.R_drew)); exact HO_6.out) hb); have n1_ := Aside0.mk (Kd.R_lower ho0 (below_size (by repeat (first | (with_reducible first | exact HB.out | apply below_alloc | apply pw_below_drewN | apply below_drew1 | refine below_set ?_ GE184.out) | exact HB.out)))); have n2_ := Aside0.mk (blk_below (g := gb184) (o := .cells #[.int .i64 a0_0, .int .i64 a0_1, .int .i64 a0_2, .int .i64 a0_3, .int .i64 a0_4] 23 (0, 0)) (by (with_reducible repeat (first | refine blk_drewN ?_ _ | refine blk_drew ?_ | refine blk_alloc ?_ _)); exact BK184.out) hb); have n3_ := Aside0.mk (below_step (by repeat (first | (with_reducible first | exact HB.out | apply below_alloc | apply pw_below_drewN | apply below_drew1 | refine below_set ?_ GE184.out) | exact HB.out)) hb); clear HO_6; clear BK184; clear HB; have HO_6 := n0_; have HO199 := n1_; have BK184 := n2_; have HB := n3_; clear n0_ n1_ n2_ n3_; (try clear hb); (try clear hb2); (try clear hk); (try clear hi); (try clear ho0); have p201 : 0 ≤ (x7_2 : Int) := of_decide_eq_true (by first | (with_reducible assumption) | assumption); have q201 : x7_2 < (y195.length : Int) := of_decide_eq_true (by first | (with_reducible assumption) | assumption); obtain ⟨ad201, e201, hx201_0, hx201_1, hx201_2, hx201_3, hx201_4⟩ := at_T23 (Kd.R_reads' HO_6.out).2.2 x7_2 p201 q201; obtain rfl : (⟨go16, 0, none⟩ : Addr) = ad201 := (by injection e201); (first | simp only [add_plain] at hx201_0 | simp only [add_at] at hx201_0 | simp only [Addr.add, Nat.zero_add] at hx201_0 | skip); (first | simp only [add_plain] at hx201_1 | simp only [add_at] at hx201_1 | simp only [Addr.add, Nat.zero_add] at hx201_1 | skip); (first | simp only [add_plain] at hx201_2 | simp only [add_at] at hx201_2 | simp only [Addr.add, Nat.zero_add] at hx201_2 | skip); (first | simp only [add_plain] at hx201_3 | simp only [add_at] at hx201_3 | simp only [Addr.add, Nat.zero_add] at hx201_3 | skip); (first | simp only [add_plain] at hx201_4 | simp only [add_at] at hx201_4 | simp only [Addr.add, Nat.zero_add] at hx201_4 | skip); replace p201 := eq_true p201; replace q201 := eq_true q201) | ((with_reducible refine gate_callee (f := 11) rfl ?_); refine goesL_ (some 70) rfl rfl Tryd.func11 (by kernel_rfl) rfl #[.agg #[.int .i64 ((rd_T23 y195 x7_2).f0), .int .i64 ((rd_T23 y195 x7_2).f1), .int .i64 ((rd_T23 y195 x7_2).f2), .int .i64 ((rd_T23 y195 x7_2).f3), .int .i64 ((rd_T23 y195 x7_2).f4)]] rfl (by (try simp only [List.map_toArray, List.map_cons, List.map_nil]); first | done | rfl | (simp only [List.length_drop, List.length_take]; rfl)) ?_; (with_reducible refine (packet_May.calls ((rd_T23 y195 x7_2).f0) ((rd_T23 y195 x7_2).f1) ((rd_T23 y195 x7_2).f2) ((rd_T23 y195 x7_2).f3) ((rd_T23 y195 x7_2).f4) false _ A45.out).mono ?_); rintro e w50 ⟨rfl, hb⟩; refine ⟨_, rfl, ?_⟩; have n0_ := Aside0.mk (Kd.R_below (by (with_reducible repeat (first | apply Kd.R_alloc | apply Kd.R_drewN | apply Kd.R_drew)); exact HO_6.out) hb); have n1_ := Aside0.mk (Kd.R_below (by (with_reducible repeat (first | apply Kd.R_alloc | apply Kd.R_drewN | apply Kd.R_drew)); exact HO199.out) hb); have n2_ := Aside0.mk (blk_below (g := gb184) (o := .cells #[.int .i64 a0_0, .int .i64 a0_1, .int .i64 a0_2, .int .i64 a0_3, .int .i64 a0_4] 23 (0, 0)) (by (with_reducible repeat (first | refine blk_drewN ?_ _ | refine blk_drew ?_ | refine blk_alloc ?_ _)); exact BK184.out) hb); have n3_ := Aside0.mk (below_step (by repeat (first | (with_reducible first | exact HB.out | apply below_alloc | apply pw_below_drewN | apply below_drew1 | refine below_set ?_ GE184.out) | exact HB.out)) hb); clear HO_6; clear HO199; clear BK184; clear HB; have HO_6 := n0_; have HO199 := n1_; have BK184 := n2_; have HB := n3_; clear n0_ n1_ n2_ n3_; (try clear hb); (try clear hb2); (try clear hk); (try clear hi); obtain ⟨Ao51, co51, eo51⟩ := Kd.R_slice HO199.out; subst eo51))
                                  (try simp only [← hl6_2])
                                  go_roundg k2
                                  case measure => have := HJ3.out; have := HK2.out; omega
                                  case rel => exact ⟨(wrap64 (x7_2 + 1)), (by first | rfl | (simp; done) | (simp [*]; done)), H', ⟨by have := HJ3.out; have := HK2.out; omega⟩, ⟨by (try simp only [hl6_2]); (with_reducible repeat (first | apply Kd.R_alloc | apply Kd.R_drewN | apply Kd.R_drew)); exact HO_6.out⟩, ⟨by (try simp only [hl6_2]); (with_reducible repeat (first | refine blk_drewN ?_ _ | refine blk_drew ?_ | refine blk_alloc ?_ _)); exact BK184.out⟩, ⟨by repeat (first | (with_reducible first | exact HB.out | apply below_alloc | apply pw_below_drewN | apply below_drew1 | refine below_set ?_ GE184.out) | exact HB.out)⟩⟩
                                · rw [if_neg c48] at H
                                  exact absurd H (by simp)
                              · rw [if_neg c47] at H
                                exact absurd H (by simp)
                          · rw [if_neg c43] at H
                            exact absurd H (by simp)
                        · rw [if_neg c42] at H
                          have c42b0 : decide (x7_2 < (y195.length : Int)) = false := decide_eq_false c42
                          (try simp only [hl6_2] at c42b0)
                          clear c42
                          obtain rfl := Option.some.inj H
                          go_wp2
                          go_ret
                          exact ⟨by first | rfl | (simp [errW_none, errW_some] <;> rfl) | (simp [*, errW_none, errW_some] <;> rfl), by repeat (first | (with_reducible first | exact HB.out | apply below_alloc | apply pw_below_drewN | apply below_drew1 | refine below_set ?_ GE184.out) | exact HB.out)⟩
                  · rw [if_neg c25] at H
                    exact absurd H (by simp)
                · rw [if_neg c23] at H
                  exact absurd H (by simp)
              · rw [if_neg c21] at H
                exact absurd H (by simp)
            · rw [if_neg c19] at H
              exact absurd H (by simp)
          · rw [if_neg c17] at H
            exact absurd H (by simp)
        · rw [if_neg c15] at H
          exact absurd H (by simp)

/-- THE ONE PURE STATEMENT of wayfinderlaw03_PacketMay: yours. -/
def wayfinderlaw03_PacketMay.Pure : Prop := ∀ (a0_0 : Int) (a0_1 : Int) (a0_2 : Int) (a0_3 : Int) (a0_4 : Int) (a1 : Int), (Lit.int .i64 a0_0).wf = true → (Lit.int .i64 a0_1).wf = true → (Lit.int .i64 a0_2).wf = true → (Lit.int .i64 a0_3).wf = true → (Lit.int .i64 a0_4).wf = true → (Lit.int .i64 a1).wf = true → ∃ k, wayfinderlaw03_PacketMay.f k a0_0 a0_1 a0_2 a0_3 a0_4 a1 = some true
theorem wayfinderlaw03_PacketMay.walk (P : wayfinderlaw03_PacketMay.Pure) (a0_0 : Int) (a0_1 : Int) (a0_2 : Int) (a0_3 : Int) (a0_4 : Int) (a1 : Int) (w : World) (hG : Glob w) (w0_0 : (Lit.int .i64 a0_0).wf = true) (w0_1 : (Lit.int .i64 a0_1).wf = true) (w0_2 : (Lit.int .i64 a0_2).wf = true) (w0_3 : (Lit.int .i64 a0_3).wf = true) (w0_4 : (Lit.int .i64 a0_4).wf = true) (w1 : (Lit.int .i64 a1).wf = true) :
    Calls Tryd.prog 4 #[.agg #[.int .i64 a0_0, .int .i64 a0_1, .int .i64 a0_2, .int .i64 a0_3, .int .i64 a0_4], .int .i64 a1] w fun e w' => e = .returned (.bool true) ∧ Below w.heap.size w w' := by
  obtain ⟨k, h⟩ := P a0_0 a0_1 a0_2 a0_3 a0_4 a1 w0_0 w0_1 w0_2 w0_3 w0_4 w1
  refine (wayfinderlaw03_PacketMay.calls k a0_0 a0_1 a0_2 a0_3 a0_4 a1 true w hG h).mono ?_
  rintro e w' ⟨rfl, hd⟩
  exact ⟨rfl, hd⟩

end Go.Proofs.YtkidokbeabmpmaaDoor.All
