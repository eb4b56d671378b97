/- Contracts of Go functions that this seat comes to, each with a plain function that tells its answers; conditions: those that each contract names. Written by a program of this session (wip/print) over the print words. -/
import Derived.Test.YtkidokbeabmpmaaDoorAllx0
import Derived.Test.YtkidokbeabmpmaaDoorAllx1
import Derived.Test.YtkidokbeabmpmaaDoorAllx3
import Derived.Test.YtkidokbeabmpmaaDoorAllx4
namespace Go.Proofs.YtkidokbeabmpmaaDoor.All
open Go.RowKit Go.Proofs.YtkidokbeabmpmaaDoorW.PrintWords Go.Proofs.YtkidokbeabmpmaaDoorW.PrintLast Go.Proofs.YtkidokbeabmpmaaDoorW.PrintMore
attribute [local go_sem] max2_int min2_int max_two min_two max_three min_three max_four min_four   -- for this text's walks alone
set_option linter.unusedVariables false
set_option linter.unusedSimpArgs false

attribute [local go_sem high] eqA23
/-! ### wayfinderlaw03_PacketFields: function 3 -/
def wayfinderlaw03_PacketFields.j0 : Nat → Bool → List Int → List Int → Bool → Int → Int → Int → Int → Int → Int → Int → Int → Int → Int → Option (Bool)
  | 0, _, _, _, _, _, _, _, _, _, _, _, _, _, _ => none
  | k + 1, x5, x6, x8, x30, x142000, x142001, x142002, x142003, x142004, x143000, x143001, x143002, x143003, x143004 => if x30 = true then (some x5) else (if (x6.length : Int) = 18 then (if (x8.length : Int) = 18 then (if 16 ≤ (x6.length : Int) then (if 16 ≤ (x8.length : Int) then (if (((strOfNums (x6.take 16)).toList == (strOfNums (x8.take 16)).toList) == (x142000 == x143000 && (x142001 == x143001 && (x142002 == x143002 && (x142003 == x143003 && (x142004 == x143004)))))) = true then (if 4 ≤ (x6.length : Int) then (if 4 ≤ (x8.length : Int) then (if (((strOfNums (x6.take 4)).toList == (strOfNums (x8.take 4)).toList) == (x142000 == x143000)) = true then (if 8 ≤ 12 then (if 12 ≤ (x6.length : Int) then (if 12 ≤ (x8.length : Int) then (if (((strOfNums ((x6.take 12).drop 8)).toList == (strOfNums ((x8.take 12).drop 8)).toList) == (x142002 == x143002)) = true then (if 14 ≤ 16 then (some (((strOfNums ((x6.take 16).drop 14)).toList == (strOfNums ((x8.take 16).drop 14)).toList) == (x142004 == x143004))) else (none)) else (none)) else (none)) else (none)) else (none)) else (none)) else (none)) else (none)) else (none)) else (none)) else (none)) else (none)) else (none))
def wayfinderlaw03_PacketFields.f (k : Nat) (a0_0 : Int) (a0_1 : Int) (a0_2 : Int) (a0_3 : Int) (a0_4 : Int) (a1_0 : Int) (a1_1 : Int) (a1_2 : Int) (a1_3 : Int) (a1_4 : Int) : Option (Bool) := (wayfinderlaw03_awake.f k).bind fun t143 => ((packet_Put.f k a0_0 a0_1 a0_2 a0_3 a0_4).bind fun bt144 => ((packet_Put.f k a1_0 a1_1 a1_2 a1_3 a1_4).bind fun bt148 => (if t143 = true then (if bt144.2 = 0 then (wayfinderlaw03_PacketFields.j0 k t143 bt144.1 bt148.1 (bt148.2 != 0) a0_0 a0_1 a0_2 a0_3 a0_4 a1_0 a1_1 a1_2 a1_3 a1_4) else (wayfinderlaw03_PacketFields.j0 k t143 bt144.1 bt148.1 true a0_0 a0_1 a0_2 a0_3 a0_4 a1_0 a1_1 a1_2 a1_3 a1_4)) else (wayfinderlaw03_PacketFields.j0 k t143 bt144.1 bt148.1 true a0_0 a0_1 a0_2 a0_3 a0_4 a1_0 a1_1 a1_2 a1_3 a1_4))))
theorem wayfinderlaw03_PacketFields.mono_l : ∀ k, (∀ y0 y1 y2 y3 y4 y5 y6 y7 y8 y9 y10 y11 y12 y13, LeO (wayfinderlaw03_PacketFields.j0 k y0 y1 y2 y3 y4 y5 y6 y7 y8 y9 y10 y11 y12 y13) (wayfinderlaw03_PacketFields.j0 (k + 1) y0 y1 y2 y3 y4 y5 y6 y7 y8 y9 y10 y11 y12 y13))
  | 0 => fun _ _ _ _ _ _ _ _ _ _ _ _ _ _ r h => by simp [wayfinderlaw03_PacketFields.j0] at h
  | k + 1 => by
    have ih0 := wayfinderlaw03_PacketFields.mono_l k
    · intro y0 y1 y2 y3 y4 y5 y6 y7 y8 y9 y10 y11 y12 y13
      unfold wayfinderlaw03_PacketFields.j0
      repeat' first
      | (with_reducible exact ih0 _ _ _ _ _ _ _ _ _ _ _ _ _ _)
      | (with_reducible exact packet_Put.mono _ _ _ _ _ _)
      | (with_reducible exact wayfinderlaw03_awake.mono _)
      | (with_reducible exact LeO.refl _)
      | (with_reducible exact LeO.none _)
      | (with_reducible refine LeO.ite ?_ ?_)
      | (with_reducible refine LeO.bind ?_ (fun _ => ?_))
      | exact ih0 _ _ _ _ _ _ _ _ _ _ _ _ _ _
      | exact packet_Put.mono _ _ _ _ _ _
      | exact wayfinderlaw03_awake.mono _
      | exact LeO.none _
      | refine LeO.ite ?_ ?_
      | refine LeO.bind ?_ (fun _ => ?_)
theorem wayfinderlaw03_PacketFields.mono : ∀ a0 a1 a2 a3 a4 a5 a6 a7 a8 a9 k, LeO (wayfinderlaw03_PacketFields.f k a0 a1 a2 a3 a4 a5 a6 a7 a8 a9) (wayfinderlaw03_PacketFields.f (k + 1) a0 a1 a2 a3 a4 a5 a6 a7 a8 a9) := by
  intro a0 a1 a2 a3 a4 a5 a6 a7 a8 a9 k
  have ih0 := wayfinderlaw03_PacketFields.mono_l k
  unfold wayfinderlaw03_PacketFields.f
  repeat' first
      | (with_reducible exact ih0 _ _ _ _ _ _ _ _ _ _ _ _ _ _)
      | (with_reducible exact packet_Put.mono _ _ _ _ _ _)
      | (with_reducible exact wayfinderlaw03_awake.mono _)
      | (with_reducible exact LeO.refl _)
      | (with_reducible exact LeO.none _)
      | (with_reducible refine LeO.ite ?_ ?_)
      | (with_reducible refine LeO.bind ?_ (fun _ => ?_))
      | exact ih0 _ _ _ _ _ _ _ _ _ _ _ _ _ _
      | exact packet_Put.mono _ _ _ _ _ _
      | exact wayfinderlaw03_awake.mono _
      | exact LeO.none _
      | refine LeO.ite ?_ ?_
      | refine LeO.bind ?_ (fun _ => ?_)
set_option maxHeartbeats 8000000 in
set_option maxRecDepth 100000 in
theorem wayfinderlaw03_PacketFields.calls (k : Nat) (a0_0 : Int) (a0_1 : Int) (a0_2 : Int) (a0_3 : Int) (a0_4 : Int) (a1_0 : Int) (a1_1 : Int) (a1_2 : Int) (a1_3 : Int) (a1_4 : Int) (r : Bool) (w : World) (hG : Glob w) (h : wayfinderlaw03_PacketFields.f k a0_0 a0_1 a0_2 a0_3 a0_4 a1_0 a1_1 a1_2 a1_3 a1_4 = some r) :
    Calls Tryd.prog 3 #[.agg #[.int .i64 a0_0, .int .i64 a0_1, .int .i64 a0_2, .int .i64 a0_3, .int .i64 a0_4], .agg #[.int .i64 a1_0, .int .i64 a1_1, .int .i64 a1_2, .int .i64 a1_3, .int .i64 a1_4]] w fun e w' => e = .returned (.bool r) ∧ Below w.heap.size w w' := by
  have hu23 := Tryd.underlying23
  have HB := Aside0.mk (Below.refl w.heap.size w)
  have H : ((wayfinderlaw03_awake.f k).bind fun t143 => ((packet_Put.f k a0_0 a0_1 a0_2 a0_3 a0_4).bind fun bt144 => ((packet_Put.f k a1_0 a1_1 a1_2 a1_3 a1_4).bind fun bt148 => (if t143 = true then (if bt144.2 = 0 then (wayfinderlaw03_PacketFields.j0 k t143 bt144.1 bt148.1 (bt148.2 != 0) a0_0 a0_1 a0_2 a0_3 a0_4 a1_0 a1_1 a1_2 a1_3 a1_4) else (wayfinderlaw03_PacketFields.j0 k t143 bt144.1 bt148.1 true a0_0 a0_1 a0_2 a0_3 a0_4 a1_0 a1_1 a1_2 a1_3 a1_4)) else (wayfinderlaw03_PacketFields.j0 k t143 bt144.1 bt148.1 true a0_0 a0_1 a0_2 a0_3 a0_4 a1_0 a1_1 a1_2 a1_3 a1_4))))) = some r := h
  clear h
  replace H := Option.bind_eq_some_iff.mp H
  obtain ⟨t143, A30, H⟩ := H
  replace H : ((packet_Put.f k a0_0 a0_1 a0_2 a0_3 a0_4).bind fun bt144 => ((packet_Put.f k a1_0 a1_1 a1_2 a1_3 a1_4).bind fun bt148 => (if t143 = true then (if bt144.2 = 0 then (wayfinderlaw03_PacketFields.j0 k t143 bt144.1 bt148.1 (bt148.2 != 0) a0_0 a0_1 a0_2 a0_3 a0_4 a1_0 a1_1 a1_2 a1_3 a1_4) else (wayfinderlaw03_PacketFields.j0 k t143 bt144.1 bt148.1 true a0_0 a0_1 a0_2 a0_3 a0_4 a1_0 a1_1 a1_2 a1_3 a1_4)) else (wayfinderlaw03_PacketFields.j0 k t143 bt144.1 bt148.1 true a0_0 a0_1 a0_2 a0_3 a0_4 a1_0 a1_1 a1_2 a1_3 a1_4)))) = some r := H
  have A3 := Aside0.mk A30
  clear A30
  replace H := Option.bind_eq_some_iff.mp H
  obtain ⟨⟨t144, t147⟩, A40, H⟩ := H
  replace H : ((packet_Put.f k a1_0 a1_1 a1_2 a1_3 a1_4).bind fun bt148 => (if t143 = true then (if t147 = 0 then (wayfinderlaw03_PacketFields.j0 k t143 t144 bt148.1 (bt148.2 != 0) a0_0 a0_1 a0_2 a0_3 a0_4 a1_0 a1_1 a1_2 a1_3 a1_4) else (wayfinderlaw03_PacketFields.j0 k t143 t144 bt148.1 true a0_0 a0_1 a0_2 a0_3 a0_4 a1_0 a1_1 a1_2 a1_3 a1_4)) else (wayfinderlaw03_PacketFields.j0 k t143 t144 bt148.1 true a0_0 a0_1 a0_2 a0_3 a0_4 a1_0 a1_1 a1_2 a1_3 a1_4))) = some r := H
  have A4 := Aside0.mk A40
  clear A40
  replace H := Option.bind_eq_some_iff.mp H
  obtain ⟨⟨t148, t151⟩, A50, H⟩ := H
  replace H : (if t143 = true then (if t147 = 0 then (wayfinderlaw03_PacketFields.j0 k t143 t144 t148 (t151 != 0) a0_0 a0_1 a0_2 a0_3 a0_4 a1_0 a1_1 a1_2 a1_3 a1_4) else (wayfinderlaw03_PacketFields.j0 k t143 t144 t148 true a0_0 a0_1 a0_2 a0_3 a0_4 a1_0 a1_1 a1_2 a1_3 a1_4)) else (wayfinderlaw03_PacketFields.j0 k t143 t144 t148 true a0_0 a0_1 a0_2 a0_3 a0_4 a1_0 a1_1 a1_2 a1_3 a1_4)) = some r := H
  have A5 := Aside0.mk A50
  clear A50
  have HC6 := Aside0.mk H
  clear H
  go_enter Tryd.func3, Tryd.ntmps3
  go_upto_region 4 with (first | ((with_reducible refine gate_dst (N := 2) rfl ?_); (try (refine gate_guard (by rfl) ?_; dsimp only)); refine box_event ?hg (N := 2) ?hd (cs := #[.int .i64 a0_0, .int .i64 a0_1, .int .i64 a0_2, .int .i64 a0_3, .int .i64 a0_4]) (t := 23) ?hr ?_; (case hd => rfl); (case hg => rfl); (case hr => first | (go_simp; done) | (go_simp; rfl)); intro gb141 hg w7 hbox hb; have n0_ := Aside0.mk (below_step (by repeat (first | (with_reducible first | exact HB.out | apply below_alloc | apply pw_below_drewN | apply below_drew1) | exact HB.out)) hb); have n1_ := Aside0.mk (hbox); have n2_ := Aside0.mk ((by rw [hg]; exact (below_size (by repeat (first | (with_reducible first | exact HB.out | apply below_alloc | apply pw_below_drewN | apply below_drew1) | exact HB.out))) : w.heap.size ≤ gb141)); have n3_ := Aside0.mk ((by rw [hg]; exact (below_size (by repeat (first | (with_reducible first | exact HB.out | apply below_alloc | apply pw_below_drewN | apply below_drew1) | exact HB.out))) : w.heap.size ≤ gb141)); clear HB; have HB := n0_; have BK141 := n1_; have GW141 := n2_; have GE141 := n3_; clear n0_ n1_ n2_ n3_; clear hb hbox hg) | ((with_reducible refine gate_dst (N := 3) rfl ?_); (try (refine gate_guard (by rfl) ?_; dsimp only)); refine box_event ?hg (N := 3) ?hd (cs := #[.int .i64 a1_0, .int .i64 a1_1, .int .i64 a1_2, .int .i64 a1_3, .int .i64 a1_4]) (t := 23) ?hr ?_; (case hd => rfl); (case hg => rfl); (case hr => first | (go_simp; done) | (go_simp; rfl)); intro gb142 hg w8 hbox hb; have n0_ := Aside0.mk (blk_below (g := gb141) (o := .cells #[.int .i64 a0_0, .int .i64 a0_1, .int .i64 a0_2, .int .i64 a0_3, .int .i64 a0_4] 23 (0, 0)) (by (with_reducible repeat (first | refine blk_drewN ?_ _ | refine blk_drew ?_ | refine blk_alloc ?_ _)); exact BK141.out) hb); have n1_ := Aside0.mk (below_step (by repeat (first | (with_reducible first | exact HB.out | apply below_alloc | apply pw_below_drewN | apply below_drew1 | refine below_set ?_ GE141.out) | exact HB.out)) hb); have n2_ := Aside0.mk (hbox); have n3_ := Aside0.mk ((by rw [hg]; exact (below_size (by repeat (first | (with_reducible first | exact HB.out | apply below_alloc | apply pw_below_drewN | apply below_drew1 | refine below_set ?_ GE141.out) | exact HB.out))) : w.heap.size ≤ gb142)); have n4_ := Aside0.mk ((by rw [hg]; exact (below_size (by repeat (first | (with_reducible first | exact HB.out | apply below_alloc | apply pw_below_drewN | apply below_drew1 | refine below_set ?_ GE141.out) | exact HB.out))) : w.heap.size ≤ gb142)); have n5_ := Aside0.mk ((by rw [hg]; exact Nat.ne_of_lt (blk_lt (g := gb141) (o := .cells #[.int .i64 a0_0, .int .i64 a0_1, .int .i64 a0_2, .int .i64 a0_3, .int .i64 a0_4] 23 (0, 0)) (by (with_reducible repeat (first | refine blk_drewN ?_ _ | refine blk_drew ?_ | refine blk_alloc ?_ _)); exact BK141.out)) : gb141 ≠ gb142)); have n6_ := Aside0.mk ((by rw [hg]; exact Nat.ne_of_gt (blk_lt (g := gb141) (o := .cells #[.int .i64 a0_0, .int .i64 a0_1, .int .i64 a0_2, .int .i64 a0_3, .int .i64 a0_4] 23 (0, 0)) (by (with_reducible repeat (first | refine blk_drewN ?_ _ | refine blk_drew ?_ | refine blk_alloc ?_ _)); exact BK141.out)) : gb142 ≠ gb141)); clear BK141; clear HB; have BK141 := n0_; have HB := n1_; have BK142 := n2_; have GW142 := n3_; have GE142 := n4_; have NB141_142 := n5_; have NB142_141 := n6_; clear n0_ n1_ n2_ n3_ n4_ n5_ n6_; clear hb hbox hg) | (go_at_call 9; (with_reducible refine (wayfinderlaw03_awake.calls k  t143 _ ?sideG_ A3.out).mono ?_); (case sideG_ => exact hG.below rfl (by repeat (first | (with_reducible first | exact HB.out | apply below_alloc | apply pw_below_drewN | apply below_drew1 | refine below_set ?_ GE141.out | refine below_set ?_ GE142.out) | exact HB.out))); rintro e w9 ⟨rfl, hb⟩; have n0_ := Aside0.mk (blk_below (g := gb141) (o := .cells #[.int .i64 a0_0, .int .i64 a0_1, .int .i64 a0_2, .int .i64 a0_3, .int .i64 a0_4] 23 (0, 0)) (by (with_reducible repeat (first | refine blk_drewN ?_ _ | refine blk_drew ?_ | refine blk_alloc ?_ _)); exact BK141.out) hb); have n1_ := Aside0.mk (blk_below (g := gb142) (o := .cells #[.int .i64 a1_0, .int .i64 a1_1, .int .i64 a1_2, .int .i64 a1_3, .int .i64 a1_4] 23 (0, 0)) (by (with_reducible repeat (first | refine blk_drewN ?_ _ | refine blk_drew ?_ | refine blk_alloc ?_ _)); exact BK142.out) hb); have n2_ := Aside0.mk (below_step (by repeat (first | (with_reducible first | exact HB.out | apply below_alloc | apply pw_below_drewN | apply below_drew1 | refine below_set ?_ GE141.out | refine below_set ?_ GE142.out) | exact HB.out)) hb); clear BK141; clear BK142; clear HB; have BK141 := n0_; have BK142 := n1_; have HB := n2_; clear n0_ n1_ n2_; (try clear hb); (try clear hb2); (try clear hk); (try clear hi); have hnb10 := NB141_142.out; have hnc10 := NB142_141.out; have hcz11_0 : w9.cell? ⟨gb141, 0, none⟩ = some (.int .i64 a0_0) := (blk_cell BK141.out 0).trans rfl; have hcz11_1 : w9.cell? ⟨gb141, 1, none⟩ = some (.int .i64 a0_1) := (blk_cell BK141.out 1).trans rfl; have hcz11_2 : w9.cell? ⟨gb141, 2, none⟩ = some (.int .i64 a0_2) := (blk_cell BK141.out 2).trans rfl; have hcz11_3 : w9.cell? ⟨gb141, 3, none⟩ = some (.int .i64 a0_3) := (blk_cell BK141.out 3).trans rfl; have hcz11_4 : w9.cell? ⟨gb141, 4, none⟩ = some (.int .i64 a0_4) := (blk_cell BK141.out 4).trans rfl; have hfz11_0 := blk_frozen BK141.out 0; have hfz11_1 := blk_frozen BK141.out 1; have hfz11_2 := blk_frozen BK141.out 2; have hfz11_3 := blk_frozen BK141.out 3; have hfz11_4 := blk_frozen BK141.out 4) | (go_at_call 10; (with_reducible refine (packet_Put.calls k a0_0 a0_1 a0_2 a0_3 a0_4 t144 t147 _ ?sideG_ A4.out).mono ?_); (case sideG_ => exact hG.below rfl (by repeat (first | (with_reducible first | exact HB.out | apply below_alloc | apply pw_below_drewN | apply below_drew1 | refine below_set ?_ GE141.out | refine below_set ?_ GE142.out) | exact HB.out))); rintro e w12 ⟨v145, rfl, ho0, hb⟩; have n0_ := Aside0.mk (Kd.R_lower ho0 (below_size (by repeat (first | (with_reducible first | exact HB.out | apply below_alloc | apply pw_below_drewN | apply below_drew1 | refine below_set ?_ GE141.out | refine below_set ?_ GE142.out) | exact HB.out)))); have n1_ := Aside0.mk (blk_below (g := gb141) (o := .cells #[.int .i64 a0_0, .int .i64 a0_1, .int .i64 a0_2, .int .i64 a0_3, .int .i64 a0_4] 23 (0, 0)) (by (with_reducible repeat (first | refine blk_drewN ?_ _ | refine blk_drew ?_ | refine blk_alloc ?_ _)); exact BK141.out) hb); have n2_ := Aside0.mk (blk_below (g := gb142) (o := .cells #[.int .i64 a1_0, .int .i64 a1_1, .int .i64 a1_2, .int .i64 a1_3, .int .i64 a1_4] 23 (0, 0)) (by (with_reducible repeat (first | refine blk_drewN ?_ _ | refine blk_drew ?_ | refine blk_alloc ?_ _)); exact BK142.out) hb); have n3_ := Aside0.mk (below_step (by repeat (first | (with_reducible first | exact HB.out | apply below_alloc | apply pw_below_drewN | apply below_drew1 | refine below_set ?_ GE141.out | refine below_set ?_ GE142.out) | exact HB.out)) hb); clear BK141; clear BK142; clear HB; have HO146 := n0_; have BK141 := n1_; have BK142 := n2_; have HB := n3_; clear n0_ n1_ n2_ n3_; (try clear hb); (try clear hb2); (try clear hk); (try clear hi); (try clear ho0); have hcz13_0 : w12.cell? ⟨gb142, 0, none⟩ = some (.int .i64 a1_0) := (blk_cell BK142.out 0).trans rfl; have hcz13_1 : w12.cell? ⟨gb142, 1, none⟩ = some (.int .i64 a1_1) := (blk_cell BK142.out 1).trans rfl; have hcz13_2 : w12.cell? ⟨gb142, 2, none⟩ = some (.int .i64 a1_2) := (blk_cell BK142.out 2).trans rfl; have hcz13_3 : w12.cell? ⟨gb142, 3, none⟩ = some (.int .i64 a1_3) := (blk_cell BK142.out 3).trans rfl; have hcz13_4 : w12.cell? ⟨gb142, 4, none⟩ = some (.int .i64 a1_4) := (blk_cell BK142.out 4).trans rfl; have hfz13_0 := blk_frozen BK142.out 0; have hfz13_1 := blk_frozen BK142.out 1; have hfz13_2 := blk_frozen BK142.out 2; have hfz13_3 := blk_frozen BK142.out 3; have hfz13_4 := blk_frozen BK142.out 4) | (go_at_call 10; (with_reducible refine (packet_Put.calls k a1_0 a1_1 a1_2 a1_3 a1_4 t148 t151 _ ?sideG_ A5.out).mono ?_); (case sideG_ => exact hG.below rfl (by repeat (first | (with_reducible first | exact HB.out | apply below_alloc | apply pw_below_drewN | apply below_drew1 | refine below_set ?_ GE141.out | refine below_set ?_ GE142.out) | exact HB.out))); rintro e w14 ⟨v149, rfl, ho0, hb⟩; have n0_ := Aside0.mk (Kd.R_elder' (by (with_reducible repeat (first | apply Kd.R_alloc | apply Kd.R_drewN | apply Kd.R_drew)); exact HO146.out) (Kd.R_base ho0) hb); have n1_ := Aside0.mk (Kd.R_lower (Kd.R_new' ho0 (Kd.R_lt (by (with_reducible repeat (first | apply Kd.R_alloc | apply Kd.R_drewN | apply Kd.R_drew)); exact HO146.out))) (below_size (by repeat (first | (with_reducible first | exact HB.out | apply below_alloc | apply pw_below_drewN | apply below_drew1 | refine below_set ?_ GE141.out | refine below_set ?_ GE142.out) | exact HB.out)))); have n2_ := Aside0.mk (blk_below (g := gb141) (o := .cells #[.int .i64 a0_0, .int .i64 a0_1, .int .i64 a0_2, .int .i64 a0_3, .int .i64 a0_4] 23 (0, 0)) (by (with_reducible repeat (first | refine blk_drewN ?_ _ | refine blk_drew ?_ | refine blk_alloc ?_ _)); exact BK141.out) hb); have n3_ := Aside0.mk (blk_below (g := gb142) (o := .cells #[.int .i64 a1_0, .int .i64 a1_1, .int .i64 a1_2, .int .i64 a1_3, .int .i64 a1_4] 23 (0, 0)) (by (with_reducible repeat (first | refine blk_drewN ?_ _ | refine blk_drew ?_ | refine blk_alloc ?_ _)); exact BK142.out) hb); have n4_ := Aside0.mk (below_step (by repeat (first | (with_reducible first | exact HB.out | apply below_alloc | apply pw_below_drewN | apply below_drew1 | refine below_set ?_ GE141.out | refine below_set ?_ GE142.out) | exact HB.out)) hb); clear HO146; clear BK141; clear BK142; clear HB; have HO146 := n0_; have HO150 := n1_; have BK141 := n2_; have BK142 := n3_; have HB := n4_; clear n0_ n1_ n2_ n3_ n4_; (try clear hb); (try clear hb2); (try clear hk); (try clear hi); (try clear ho0)))
  repeat (go_quiet (first | ((with_reducible refine gate_dst (N := 2) rfl ?_); (try (refine gate_guard (by rfl) ?_; dsimp only)); refine box_event ?hg (N := 2) ?hd (cs := #[.int .i64 a0_0, .int .i64 a0_1, .int .i64 a0_2, .int .i64 a0_3, .int .i64 a0_4]) (t := 23) ?hr ?_; (case hd => rfl); (case hg => rfl); (case hr => first | (go_simp; done) | (go_simp; rfl)); intro gb141 hg w7 hbox hb; have n0_ := Aside0.mk (below_step (by repeat (first | (with_reducible first | exact HB.out | apply below_alloc | apply pw_below_drewN | apply below_drew1) | exact HB.out)) hb); have n1_ := Aside0.mk (hbox); have n2_ := Aside0.mk ((by rw [hg]; exact (below_size (by repeat (first | (with_reducible first | exact HB.out | apply below_alloc | apply pw_below_drewN | apply below_drew1) | exact HB.out))) : w.heap.size ≤ gb141)); have n3_ := Aside0.mk ((by rw [hg]; exact (below_size (by repeat (first | (with_reducible first | exact HB.out | apply below_alloc | apply pw_below_drewN | apply below_drew1) | exact HB.out))) : w.heap.size ≤ gb141)); clear HB; have HB := n0_; have BK141 := n1_; have GW141 := n2_; have GE141 := n3_; clear n0_ n1_ n2_ n3_; clear hb hbox hg) | ((with_reducible refine gate_dst (N := 3) rfl ?_); (try (refine gate_guard (by rfl) ?_; dsimp only)); refine box_event ?hg (N := 3) ?hd (cs := #[.int .i64 a1_0, .int .i64 a1_1, .int .i64 a1_2, .int .i64 a1_3, .int .i64 a1_4]) (t := 23) ?hr ?_; (case hd => rfl); (case hg => rfl); (case hr => first | (go_simp; done) | (go_simp; rfl)); intro gb142 hg w8 hbox hb; have n0_ := Aside0.mk (blk_below (g := gb141) (o := .cells #[.int .i64 a0_0, .int .i64 a0_1, .int .i64 a0_2, .int .i64 a0_3, .int .i64 a0_4] 23 (0, 0)) (by (with_reducible repeat (first | refine blk_drewN ?_ _ | refine blk_drew ?_ | refine blk_alloc ?_ _)); exact BK141.out) hb); have n1_ := Aside0.mk (below_step (by repeat (first | (with_reducible first | exact HB.out | apply below_alloc | apply pw_below_drewN | apply below_drew1 | refine below_set ?_ GE141.out) | exact HB.out)) hb); have n2_ := Aside0.mk (hbox); have n3_ := Aside0.mk ((by rw [hg]; exact (below_size (by repeat (first | (with_reducible first | exact HB.out | apply below_alloc | apply pw_below_drewN | apply below_drew1 | refine below_set ?_ GE141.out) | exact HB.out))) : w.heap.size ≤ gb142)); have n4_ := Aside0.mk ((by rw [hg]; exact (below_size (by repeat (first | (with_reducible first | exact HB.out | apply below_alloc | apply pw_below_drewN | apply below_drew1 | refine below_set ?_ GE141.out) | exact HB.out))) : w.heap.size ≤ gb142)); have n5_ := Aside0.mk ((by rw [hg]; exact Nat.ne_of_lt (blk_lt (g := gb141) (o := .cells #[.int .i64 a0_0, .int .i64 a0_1, .int .i64 a0_2, .int .i64 a0_3, .int .i64 a0_4] 23 (0, 0)) (by (with_reducible repeat (first | refine blk_drewN ?_ _ | refine blk_drew ?_ | refine blk_alloc ?_ _)); exact BK141.out)) : gb141 ≠ gb142)); have n6_ := Aside0.mk ((by rw [hg]; exact Nat.ne_of_gt (blk_lt (g := gb141) (o := .cells #[.int .i64 a0_0, .int .i64 a0_1, .int .i64 a0_2, .int .i64 a0_3, .int .i64 a0_4] 23 (0, 0)) (by (with_reducible repeat (first | refine blk_drewN ?_ _ | refine blk_drew ?_ | refine blk_alloc ?_ _)); exact BK141.out)) : gb142 ≠ gb141)); clear BK141; clear HB; have BK141 := n0_; have HB := n1_; have BK142 := n2_; have GW142 := n3_; have GE142 := n4_; have NB141_142 := n5_; have NB142_141 := n6_; clear n0_ n1_ n2_ n3_ n4_ n5_ n6_; clear hb hbox hg) | (go_at_call 9; (with_reducible refine (wayfinderlaw03_awake.calls k  t143 _ ?sideG_ A3.out).mono ?_); (case sideG_ => exact hG.below rfl (by repeat (first | (with_reducible first | exact HB.out | apply below_alloc | apply pw_below_drewN | apply below_drew1 | refine below_set ?_ GE141.out | refine below_set ?_ GE142.out) | exact HB.out))); rintro e w9 ⟨rfl, hb⟩; have n0_ := Aside0.mk (blk_below (g := gb141) (o := .cells #[.int .i64 a0_0, .int .i64 a0_1, .int .i64 a0_2, .int .i64 a0_3, .int .i64 a0_4] 23 (0, 0)) (by (with_reducible repeat (first | refine blk_drewN ?_ _ | refine blk_drew ?_ | refine blk_alloc ?_ _)); exact BK141.out) hb); have n1_ := Aside0.mk (blk_below (g := gb142) (o := .cells #[.int .i64 a1_0, .int .i64 a1_1, .int .i64 a1_2, .int .i64 a1_3, .int .i64 a1_4] 23 (0, 0)) (by (with_reducible repeat (first | refine blk_drewN ?_ _ | refine blk_drew ?_ | refine blk_alloc ?_ _)); exact BK142.out) hb); have n2_ := Aside0.mk (below_step (by repeat (first | (with_reducible first | exact HB.out | apply below_alloc | apply pw_below_drewN | apply below_drew1 | refine below_set ?_ GE141.out | refine below_set ?_ GE142.out) | exact HB.out)) hb); clear BK141; clear BK142; clear HB; have BK141 := n0_; have BK142 := n1_; have HB := n2_; clear n0_ n1_ n2_; (try clear hb); (try clear hb2); (try clear hk); (try clear hi); have hnb10 := NB141_142.out; have hnc10 := NB142_141.out; have hcz11_0 : w9.cell? ⟨gb141, 0, none⟩ = some (.int .i64 a0_0) := (blk_cell BK141.out 0).trans rfl; have hcz11_1 : w9.cell? ⟨gb141, 1, none⟩ = some (.int .i64 a0_1) := (blk_cell BK141.out 1).trans rfl; have hcz11_2 : w9.cell? ⟨gb141, 2, none⟩ = some (.int .i64 a0_2) := (blk_cell BK141.out 2).trans rfl; have hcz11_3 : w9.cell? ⟨gb141, 3, none⟩ = some (.int .i64 a0_3) := (blk_cell BK141.out 3).trans rfl; have hcz11_4 : w9.cell? ⟨gb141, 4, none⟩ = some (.int .i64 a0_4) := (blk_cell BK141.out 4).trans rfl; have hfz11_0 := blk_frozen BK141.out 0; have hfz11_1 := blk_frozen BK141.out 1; have hfz11_2 := blk_frozen BK141.out 2; have hfz11_3 := blk_frozen BK141.out 3; have hfz11_4 := blk_frozen BK141.out 4) | (go_at_call 10; (with_reducible refine (packet_Put.calls k a0_0 a0_1 a0_2 a0_3 a0_4 t144 t147 _ ?sideG_ A4.out).mono ?_); (case sideG_ => exact hG.below rfl (by repeat (first | (with_reducible first | exact HB.out | apply below_alloc | apply pw_below_drewN | apply below_drew1 | refine below_set ?_ GE141.out | refine below_set ?_ GE142.out) | exact HB.out))); rintro e w12 ⟨v145, rfl, ho0, hb⟩; have n0_ := Aside0.mk (Kd.R_lower ho0 (below_size (by repeat (first | (with_reducible first | exact HB.out | apply below_alloc | apply pw_below_drewN | apply below_drew1 | refine below_set ?_ GE141.out | refine below_set ?_ GE142.out) | exact HB.out)))); have n1_ := Aside0.mk (blk_below (g := gb141) (o := .cells #[.int .i64 a0_0, .int .i64 a0_1, .int .i64 a0_2, .int .i64 a0_3, .int .i64 a0_4] 23 (0, 0)) (by (with_reducible repeat (first | refine blk_drewN ?_ _ | refine blk_drew ?_ | refine blk_alloc ?_ _)); exact BK141.out) hb); have n2_ := Aside0.mk (blk_below (g := gb142) (o := .cells #[.int .i64 a1_0, .int .i64 a1_1, .int .i64 a1_2, .int .i64 a1_3, .int .i64 a1_4] 23 (0, 0)) (by (with_reducible repeat (first | refine blk_drewN ?_ _ | refine blk_drew ?_ | refine blk_alloc ?_ _)); exact BK142.out) hb); have n3_ := Aside0.mk (below_step (by repeat (first | (with_reducible first | exact HB.out | apply below_alloc | apply pw_below_drewN | apply below_drew1 | refine below_set ?_ GE141.out | refine below_set ?_ GE142.out) | exact HB.out)) hb); clear BK141; clear BK142; clear HB; have HO146 := n0_; have BK141 := n1_; have BK142 := n2_; have HB := n3_; clear n0_ n1_ n2_ n3_; (try clear hb); (try clear hb2); (try clear hk); (try clear hi); (try clear ho0); have hcz13_0 : w12.cell? ⟨gb142, 0, none⟩ = some (.int .i64 a1_0) := (blk_cell BK142.out 0).trans rfl; have hcz13_1 : w12.cell? ⟨gb142, 1, none⟩ = some (.int .i64 a1_1) := (blk_cell BK142.out 1).trans rfl; have hcz13_2 : w12.cell? ⟨gb142, 2, none⟩ = some (.int .i64 a1_2) := (blk_cell BK142.out 2).trans rfl; have hcz13_3 : w12.cell? ⟨gb142, 3, none⟩ = some (.int .i64 a1_3) := (blk_cell BK142.out 3).trans rfl; have hcz13_4 : w12.cell? ⟨gb142, 4, none⟩ = some (.int .i64 a1_4) := (blk_cell BK142.out 4).trans rfl; have hfz13_0 := blk_frozen BK142.out 0; have hfz13_1 := blk_frozen BK142.out 1; have hfz13_2 := blk_frozen BK142.out 2; have hfz13_3 := blk_frozen BK142.out 3; have hfz13_4 := blk_frozen BK142.out 4) | (go_at_call 10; (with_reducible refine (packet_Put.calls k a1_0 a1_1 a1_2 a1_3 a1_4 t148 t151 _ ?sideG_ A5.out).mono ?_); (case sideG_ => exact hG.below rfl (by repeat (first | (with_reducible first | exact HB.out | apply below_alloc | apply pw_below_drewN | apply below_drew1 | refine below_set ?_ GE141.out | refine below_set ?_ GE142.out) | exact HB.out))); rintro e w14 ⟨v149, rfl, ho0, hb⟩; have n0_ := Aside0.mk (Kd.R_elder' (by (with_reducible repeat (first | apply Kd.R_alloc | apply Kd.R_drewN | apply Kd.R_drew)); exact HO146.out) (Kd.R_base ho0) hb); have n1_ := Aside0.mk (Kd.R_lower (Kd.R_new' ho0 (Kd.R_lt (by (with_reducible repeat (first | apply Kd.R_alloc | apply Kd.R_drewN | apply Kd.R_drew)); exact HO146.out))) (below_size (by repeat (first | (with_reducible first | exact HB.out | apply below_alloc | apply pw_below_drewN | apply below_drew1 | refine below_set ?_ GE141.out | refine below_set ?_ GE142.out) | exact HB.out)))); have n2_ := Aside0.mk (blk_below (g := gb141) (o := .cells #[.int .i64 a0_0, .int .i64 a0_1, .int .i64 a0_2, .int .i64 a0_3, .int .i64 a0_4] 23 (0, 0)) (by (with_reducible repeat (first | refine blk_drewN ?_ _ | refine blk_drew ?_ | refine blk_alloc ?_ _)); exact BK141.out) hb); have n3_ := Aside0.mk (blk_below (g := gb142) (o := .cells #[.int .i64 a1_0, .int .i64 a1_1, .int .i64 a1_2, .int .i64 a1_3, .int .i64 a1_4] 23 (0, 0)) (by (with_reducible repeat (first | refine blk_drewN ?_ _ | refine blk_drew ?_ | refine blk_alloc ?_ _)); exact BK142.out) hb); have n4_ := Aside0.mk (below_step (by repeat (first | (with_reducible first | exact HB.out | apply below_alloc | apply pw_below_drewN | apply below_drew1 | refine below_set ?_ GE141.out | refine below_set ?_ GE142.out) | exact HB.out)) hb); clear HO146; clear BK141; clear BK142; clear HB; have HO146 := n0_; have HO150 := n1_; have BK141 := n2_; have BK142 := n3_; have HB := n4_; clear n0_ n1_ n2_ n3_ n4_; (try clear hb); (try clear hb2); (try clear hk); (try clear hi); (try clear ho0))); go_upto_region 4 with (first | ((with_reducible refine gate_dst (N := 2) rfl ?_); (try (refine gate_guard (by rfl) ?_; dsimp only)); refine box_event ?hg (N := 2) ?hd (cs := #[.int .i64 a0_0, .int .i64 a0_1, .int .i64 a0_2, .int .i64 a0_3, .int .i64 a0_4]) (t := 23) ?hr ?_; (case hd => rfl); (case hg => rfl); (case hr => first | (go_simp; done) | (go_simp; rfl)); intro gb141 hg w7 hbox hb; have n0_ := Aside0.mk (below_step (by repeat (first | (with_reducible first | exact HB.out | apply below_alloc | apply pw_below_drewN | apply below_drew1) | exact HB.out)) hb); have n1_ := Aside0.mk (hbox); have n2_ := Aside0.mk ((by rw [hg]; exact (below_size (by repeat (first | (with_reducible first | exact HB.out | apply below_alloc | apply pw_below_drewN | apply below_drew1) | exact HB.out))) : w.heap.size ≤ gb141)); have n3_ := Aside0.mk ((by rw [hg]; exact (below_size (by repeat (first | (with_reducible first | exact HB.out | apply below_alloc | apply pw_below_drewN | apply below_drew1) | exact HB.out))) : w.heap.size ≤ gb141)); clear HB; have HB := n0_; have BK141 := n1_; have GW141 := n2_; have GE141 := n3_; clear n0_ n1_ n2_ n3_; clear hb hbox hg) | ((with_reducible refine gate_dst (N := 3) rfl ?_); (try (refine gate_guard (by rfl) ?_; dsimp only)); refine box_event ?hg (N := 3) ?hd (cs := #[.int .i64 a1_0, .int .i64 a1_1, .int .i64 a1_2, .int .i64 a1_3, .int .i64 a1_4]) (t := 23) ?hr ?_; (case hd => rfl); (case hg => rfl); (case hr => first | (go_simp; done) | (go_simp; rfl)); intro gb142 hg w8 hbox hb; have n0_ := Aside0.mk (blk_below (g := gb141) (o := .cells #[.int .i64 a0_0, .int .i64 a0_1, .int .i64 a0_2, .int .i64 a0_3, .int .i64 a0_4] 23 (0, 0)) (by (with_reducible repeat (first | refine blk_drewN ?_ _ | refine blk_drew ?_ | refine blk_alloc ?_ _)); exact BK141.out) hb); have n1_ := Aside0.mk (below_step (by repeat (first | (with_reducible first | exact HB.out | apply below_alloc | apply pw_below_drewN | apply below_drew1 | refine below_set ?_ GE141.out) | exact HB.out)) hb); have n2_ := Aside0.mk (hbox); have n3_ := Aside0.mk ((by rw [hg]; exact (below_size (by repeat (first | (with_reducible first | exact HB.out | apply below_alloc | apply pw_below_drewN | apply below_drew1 | refine below_set ?_ GE141.out) | exact HB.out))) : w.heap.size ≤ gb142)); have n4_ := Aside0.mk ((by rw [hg]; exact (below_size (by repeat (first | (with_reducible first | exact HB.out | apply below_alloc | apply pw_below_drewN | apply below_drew1 | refine below_set ?_ GE141.out) | exact HB.out))) : w.heap.size ≤ gb142)); have n5_ := Aside0.mk ((by rw [hg]; exact Nat.ne_of_lt (blk_lt (g := gb141) (o := .cells #[.int .i64 a0_0, .int .i64 a0_1, .int .i64 a0_2, .int .i64 a0_3, .int .i64 a0_4] 23 (0, 0)) (by (with_reducible repeat (first | refine blk_drewN ?_ _ | refine blk_drew ?_ | refine blk_alloc ?_ _)); exact BK141.out)) : gb141 ≠ gb142)); have n6_ := Aside0.mk ((by rw [hg]; exact Nat.ne_of_gt (blk_lt (g := gb141) (o := .cells #[.int .i64 a0_0, .int .i64 a0_1, .int .i64 a0_2, .int .i64 a0_3, .int .i64 a0_4] 23 (0, 0)) (by (with_reducible repeat (first | refine blk_drewN ?_ _ | refine blk_drew ?_ | refine blk_alloc ?_ _)); exact BK141.out)) : gb142 ≠ gb141)); clear BK141; clear HB; have BK141 := n0_; have HB := n1_; have BK142 := n2_; have GW142 := n3_; have GE142 := n4_; have NB141_142 := n5_; have NB142_141 := n6_; clear n0_ n1_ n2_ n3_ n4_ n5_ n6_; clear hb hbox hg) | (go_at_call 9; (with_reducible refine (wayfinderlaw03_awake.calls k  t143 _ ?sideG_ A3.out).mono ?_); (case sideG_ => exact hG.below rfl (by repeat (first | (with_reducible first | exact HB.out | apply below_alloc | apply pw_below_drewN | apply below_drew1 | refine below_set ?_ GE141.out | refine below_set ?_ GE142.out) | exact HB.out))); rintro e w9 ⟨rfl, hb⟩; have n0_ := Aside0.mk (blk_below (g := gb141) (o := .cells #[.int .i64 a0_0, .int .i64 a0_1, .int .i64 a0_2, .int .i64 a0_3, .int .i64 a0_4] 23 (0, 0)) (by (with_reducible repeat (first | refine blk_drewN ?_ _ | refine blk_drew ?_ | refine blk_alloc ?_ _)); exact BK141.out) hb); have n1_ := Aside0.mk (blk_below (g := gb142) (o := .cells #[.int .i64 a1_0, .int .i64 a1_1, .int .i64 a1_2, .int .i64 a1_3, .int .i64 a1_4] 23 (0, 0)) (by (with_reducible repeat (first | refine blk_drewN ?_ _ | refine blk_drew ?_ | refine blk_alloc ?_ _)); exact BK142.out) hb); have n2_ := Aside0.mk (below_step (by repeat (first | (with_reducible first | exact HB.out | apply below_alloc | apply pw_below_drewN | apply below_drew1 | refine below_set ?_ GE141.out | refine below_set ?_ GE142.out) | exact HB.out)) hb); clear BK141; clear BK142; clear HB; have BK141 := n0_; have BK142 := n1_; have HB := n2_; clear n0_ n1_ n2_; (try clear hb); (try clear hb2); (try clear hk); (try clear hi); have hnb10 := NB141_142.out; have hnc10 := NB142_141.out; have hcz11_0 : w9.cell? ⟨gb141, 0, none⟩ = some (.int .i64 a0_0) := (blk_cell BK141.out 0).trans rfl; have hcz11_1 : w9.cell? ⟨gb141, 1, none⟩ = some (.int .i64 a0_1) := (blk_cell BK141.out 1).trans rfl; have hcz11_2 : w9.cell? ⟨gb141, 2, none⟩ = some (.int .i64 a0_2) := (blk_cell BK141.out 2).trans rfl; have hcz11_3 : w9.cell? ⟨gb141, 3, none⟩ = some (.int .i64 a0_3) := (blk_cell BK141.out 3).trans rfl; have hcz11_4 : w9.cell? ⟨gb141, 4, none⟩ = some (.int .i64 a0_4) := (blk_cell BK141.out 4).trans rfl; have hfz11_0 := blk_frozen BK141.out 0; have hfz11_1 := blk_frozen BK141.out 1; have hfz11_2 := blk_frozen BK141.out 2; have hfz11_3 := blk_frozen BK141.out 3; have hfz11_4 := blk_frozen BK141.out 4) | (go_at_call 10; (with_reducible refine (packet_Put.calls k a0_0 a0_1 a0_2 a0_3 a0_4 t144 t147 _ ?sideG_ A4.out).mono ?_); (case sideG_ => exact hG.below rfl (by repeat (first | (with_reducible first | exact HB.out | apply below_alloc | apply pw_below_drewN | apply below_drew1 | refine below_set ?_ GE141.out | refine below_set ?_ GE142.out) | exact HB.out))); rintro e w12 ⟨v145, rfl, ho0, hb⟩; have n0_ := Aside0.mk (Kd.R_lower ho0 (below_size (by repeat (first | (with_reducible first | exact HB.out | apply below_alloc | apply pw_below_drewN | apply below_drew1 | refine below_set ?_ GE141.out | refine below_set ?_ GE142.out) | exact HB.out)))); have n1_ := Aside0.mk (blk_below (g := gb141) (o := .cells #[.int .i64 a0_0, .int .i64 a0_1, .int .i64 a0_2, .int .i64 a0_3, .int .i64 a0_4] 23 (0, 0)) (by (with_reducible repeat (first | refine blk_drewN ?_ _ | refine blk_drew ?_ | refine blk_alloc ?_ _)); exact BK141.out) hb); have n2_ := Aside0.mk (blk_below (g := gb142) (o := .cells #[.int .i64 a1_0, .int .i64 a1_1, .int .i64 a1_2, .int .i64 a1_3, .int .i64 a1_4] 23 (0, 0)) (by (with_reducible repeat (first | refine blk_drewN ?_ _ | refine blk_drew ?_ | refine blk_alloc ?_ _)); exact BK142.out) hb); have n3_ := Aside0.mk (below_step (by repeat (first | (with_reducible first | exact HB.out | apply below_alloc | apply pw_below_drewN | apply below_drew1 | refine below_set ?_ GE141.out | refine below_set ?_ GE142.out) | exact HB.out)) hb); clear BK141; clear BK142; clear HB; have HO146 := n0_; have BK141 := n1_; have BK142 := n2_; have HB := n3_; clear n0_ n1_ n2_ n3_; (try clear hb); (try clear hb2); (try clear hk); (try clear hi); (try clear ho0); have hcz13_0 : w12.cell? ⟨gb142, 0, none⟩ = some (.int .i64 a1_0) := (blk_cell BK142.out 0).trans rfl; have hcz13_1 : w12.cell? ⟨gb142, 1, none⟩ = some (.int .i64 a1_1) := (blk_cell BK142.out 1).trans rfl; have hcz13_2 : w12.cell? ⟨gb142, 2, none⟩ = some (.int .i64 a1_2) := (blk_cell BK142.out 2).trans rfl; have hcz13_3 : w12.cell? ⟨gb142, 3, none⟩ = some (.int .i64 a1_3) := (blk_cell BK142.out 3).trans rfl; have hcz13_4 : w12.cell? ⟨gb142, 4, none⟩ = some (.int .i64 a1_4) := (blk_cell BK142.out 4).trans rfl; have hfz13_0 := blk_frozen BK142.out 0; have hfz13_1 := blk_frozen BK142.out 1; have hfz13_2 := blk_frozen BK142.out 2; have hfz13_3 := blk_frozen BK142.out 3; have hfz13_4 := blk_frozen BK142.out 4) | (go_at_call 10; (with_reducible refine (packet_Put.calls k a1_0 a1_1 a1_2 a1_3 a1_4 t148 t151 _ ?sideG_ A5.out).mono ?_); (case sideG_ => exact hG.below rfl (by repeat (first | (with_reducible first | exact HB.out | apply below_alloc | apply pw_below_drewN | apply below_drew1 | refine below_set ?_ GE141.out | refine below_set ?_ GE142.out) | exact HB.out))); rintro e w14 ⟨v149, rfl, ho0, hb⟩; have n0_ := Aside0.mk (Kd.R_elder' (by (with_reducible repeat (first | apply Kd.R_alloc | apply Kd.R_drewN | apply Kd.R_drew)); exact HO146.out) (Kd.R_base ho0) hb); have n1_ := Aside0.mk (Kd.R_lower (Kd.R_new' ho0 (Kd.R_lt (by (with_reducible repeat (first | apply Kd.R_alloc | apply Kd.R_drewN | apply Kd.R_drew)); exact HO146.out))) (below_size (by repeat (first | (with_reducible first | exact HB.out | apply below_alloc | apply pw_below_drewN | apply below_drew1 | refine below_set ?_ GE141.out | refine below_set ?_ GE142.out) | exact HB.out)))); have n2_ := Aside0.mk (blk_below (g := gb141) (o := .cells #[.int .i64 a0_0, .int .i64 a0_1, .int .i64 a0_2, .int .i64 a0_3, .int .i64 a0_4] 23 (0, 0)) (by (with_reducible repeat (first | refine blk_drewN ?_ _ | refine blk_drew ?_ | refine blk_alloc ?_ _)); exact BK141.out) hb); have n3_ := Aside0.mk (blk_below (g := gb142) (o := .cells #[.int .i64 a1_0, .int .i64 a1_1, .int .i64 a1_2, .int .i64 a1_3, .int .i64 a1_4] 23 (0, 0)) (by (with_reducible repeat (first | refine blk_drewN ?_ _ | refine blk_drew ?_ | refine blk_alloc ?_ _)); exact BK142.out) hb); have n4_ := Aside0.mk (below_step (by repeat (first | (with_reducible first | exact HB.out | apply below_alloc | apply pw_below_drewN | apply below_drew1 | refine below_set ?_ GE141.out | refine below_set ?_ GE142.out) | exact HB.out)) hb); clear HO146; clear BK141; clear BK142; clear HB; have HO146 := n0_; have HO150 := n1_; have BK141 := n2_; have BK142 := n3_; have HB := n4_; clear n0_ n1_ n2_ n3_ n4_; (try clear hb); (try clear hb2); (try clear hk); (try clear hi); (try clear ho0))))
  (try simp only [Act.put, List.setIfInBounds_toArray, List.set_cons_zero, List.set_cons_succ])
  go_cut [30] (fun v30 wc => ∃ (kq : Nat) (x30_5 : Bool), v30 = .bool x30_5 ∧ Aside0 (wayfinderlaw03_PacketFields.j0 kq t143 t144 t148 x30_5 a0_0 a0_1 a0_2 a0_3 a0_4 a1_0 a1_1 a1_2 a1_3 a1_4 = some r) ∧ Aside0 (kq ≤ k) ∧ Aside0 (Kd.R (Kd.int .u8) 5 wc w.heap.size (fun k_ => some k_ ≠ (v149 : Value).ownBlock) v145 t144) ∧ Aside0 (Kd.R (Kd.int .u8) 5 wc w.heap.size (fun k_ => some k_ ≠ (v145 : Value).ownBlock) v149 t148) ∧ Aside0 (wc.heap[gb141]? = some (.cells #[.int .i64 a0_0, .int .i64 a0_1, .int .i64 a0_2, .int .i64 a0_3, .int .i64 a0_4] 23 (0, 0))) ∧ Aside0 (wc.heap[gb142]? = some (.cells #[.int .i64 a1_0, .int .i64 a1_1, .int .i64 a1_2, .int .i64 a1_3, .int .i64 a1_4] 23 (0, 0))) ∧ Aside0 (Below w.heap.size w wc))
  case first =>
    have H := HC6.out
    clear HC6
    by_cases c15 : t143 = true
    · subst c15
      have H1 : (if t147 = 0 then (wayfinderlaw03_PacketFields.j0 k true t144 t148 (t151 != 0) a0_0 a0_1 a0_2 a0_3 a0_4 a1_0 a1_1 a1_2 a1_3 a1_4) else (wayfinderlaw03_PacketFields.j0 k true t144 t148 true a0_0 a0_1 a0_2 a0_3 a0_4 a1_0 a1_1 a1_2 a1_3 a1_4)) = some r := by rw [if_pos rfl] at H; exact H
      clear H
      have H := H1
      clear H1
      by_cases c16 : t147 = 0
      · rw [if_pos c16] at H
        have c16b0 : (t147 == 0) = true := beq_iff_eq.mpr c16
        have c16b1 : (t147 != 0) = false := bne_eq_false_iff_eq.mpr c16
        clear c16
        (first | rw [c16b0] | (simp only [i64_w, i32_w]; rw [c16b0]) | skip)
        have H' := Aside0.mk H
        clear H
        go_wp2
        repeat (go_quiet (fail); try go_wp2)
        go_meet
        case rel => exact ⟨_, ((t151 != 0)), (by first | rfl | (simp; done) | (simp [*]; done)), H', ⟨by first | omega | exact Nat.le_refl _⟩, ⟨by (with_reducible repeat (first | apply Kd.R_alloc | apply Kd.R_drewN | apply Kd.R_drew)); exact Kd.R_mono HO146.out (fun _ hk => hk.2)⟩, ⟨by (with_reducible repeat (first | apply Kd.R_alloc | apply Kd.R_drewN | apply Kd.R_drew)); exact Kd.R_mono HO150.out (fun _ hk => hk.2)⟩, ⟨by (with_reducible repeat (first | refine blk_drewN ?_ _ | refine blk_drew ?_ | refine blk_alloc ?_ _)); exact BK141.out⟩, ⟨by (with_reducible repeat (first | refine blk_drewN ?_ _ | refine blk_drew ?_ | refine blk_alloc ?_ _)); exact BK142.out⟩, ⟨by repeat (first | (with_reducible first | exact HB.out | apply below_alloc | apply pw_below_drewN | apply below_drew1 | refine below_set ?_ GE141.out | refine below_set ?_ GE142.out) | exact HB.out)⟩⟩
      · rw [if_neg c16] at H
        have c16b0 : (t147 == 0) = false := beq_eq_false_iff_ne.mpr c16
        have c16b1 : (t147 != 0) = true := bne_iff_ne.mpr c16
        (first | rw [c16b0] | (simp only [i64_w, i32_w]; rw [c16b0]) | skip)
        have H' := Aside0.mk H
        clear H
        go_wp2
        repeat (go_quiet (fail); try go_wp2)
        go_meet
        case rel => exact ⟨_, (true), (by first | rfl | (simp; done) | (simp [*]; done)), H', ⟨by first | omega | exact Nat.le_refl _⟩, ⟨by (with_reducible repeat (first | apply Kd.R_alloc | apply Kd.R_drewN | apply Kd.R_drew)); exact Kd.R_mono HO146.out (fun _ hk => hk.2)⟩, ⟨by (with_reducible repeat (first | apply Kd.R_alloc | apply Kd.R_drewN | apply Kd.R_drew)); exact Kd.R_mono HO150.out (fun _ hk => hk.2)⟩, ⟨by (with_reducible repeat (first | refine blk_drewN ?_ _ | refine blk_drew ?_ | refine blk_alloc ?_ _)); exact BK141.out⟩, ⟨by (with_reducible repeat (first | refine blk_drewN ?_ _ | refine blk_drew ?_ | refine blk_alloc ?_ _)); exact BK142.out⟩, ⟨by repeat (first | (with_reducible first | exact HB.out | apply below_alloc | apply pw_below_drewN | apply below_drew1 | refine below_set ?_ GE141.out | refine below_set ?_ GE142.out) | exact HB.out)⟩⟩
    · replace c15 := Bool.eq_false_iff.mpr c15
      subst c15
      have H1 : (wayfinderlaw03_PacketFields.j0 k false t144 t148 true a0_0 a0_1 a0_2 a0_3 a0_4 a1_0 a1_1 a1_2 a1_3 a1_4) = some r := by rw [if_neg (show ¬ (false = true) by decide)] at H; exact H
      clear H
      have H := H1
      clear H1
      have H' := Aside0.mk H
      clear H
      go_wp2
      repeat (go_quiet (fail); try go_wp2)
      go_meet
      case rel => exact ⟨_, (true), (by first | rfl | (simp; done) | (simp [*]; done)), H', ⟨by first | omega | exact Nat.le_refl _⟩, ⟨by (with_reducible repeat (first | apply Kd.R_alloc | apply Kd.R_drewN | apply Kd.R_drew)); exact Kd.R_mono HO146.out (fun _ hk => hk.2)⟩, ⟨by (with_reducible repeat (first | apply Kd.R_alloc | apply Kd.R_drewN | apply Kd.R_drew)); exact Kd.R_mono HO150.out (fun _ hk => hk.2)⟩, ⟨by (with_reducible repeat (first | refine blk_drewN ?_ _ | refine blk_drew ?_ | refine blk_alloc ?_ _)); exact BK141.out⟩, ⟨by (with_reducible repeat (first | refine blk_drewN ?_ _ | refine blk_drew ?_ | refine blk_alloc ?_ _)); exact BK142.out⟩, ⟨by repeat (first | (with_reducible first | exact HB.out | apply below_alloc | apply pw_below_drewN | apply below_drew1 | refine below_set ?_ GE141.out | refine below_set ?_ GE142.out) | exact HB.out)⟩⟩
  case rest =>
    clear HC6
    try clear c1
    try clear p2
    try clear c3
    try clear c10
    try clear c15
    try clear c16
    try clear c16b0
    try clear c16b1
    try clear hcz11_0
    try clear hcz11_1
    try clear hcz11_2
    try clear hcz11_3
    try clear hcz11_4
    try clear hcz13_0
    try clear hcz13_1
    try clear hcz13_2
    try clear hcz13_3
    try clear hcz13_4
    try clear hfz11_0
    try clear hfz11_1
    try clear hfz11_2
    try clear hfz11_3
    try clear hfz11_4
    try clear hfz13_0
    try clear hfz13_1
    try clear hfz13_2
    try clear hfz13_3
    try clear hfz13_4
    obtain ⟨kq, x30_5, rfl, HA, HJ5, HO_6, HO_8, BK141, BK142, HB⟩ := hcut
    cases kq with
    | zero => exact absurd HA.out (by simp [wayfinderlaw03_PacketFields.j0])
    | succ kj5 =>
      have H := HA.out
      clear HA
      simp only [wayfinderlaw03_PacketFields.j0] at H
      by_cases c17 : x30_5 = true
      · subst c17
        have H1 : (some t143) = some r := by rw [if_pos rfl] at H; exact H
        clear H
        have H := H1
        clear H1
        obtain rfl := Option.some.inj H
        go_wp2
        repeat (go_quiet (fail); try go_wp2)
        go_ret
        exact ⟨by first | rfl | (simp [errW_none, errW_some] <;> rfl) | (simp [*, errW_none, errW_some] <;> rfl), by repeat (first | (with_reducible first | exact HB.out | apply below_alloc | apply pw_below_drewN | apply below_drew1 | refine below_set ?_ GE141.out | refine below_set ?_ GE142.out) | exact HB.out)⟩
      · replace c17 := Bool.eq_false_iff.mpr c17
        subst c17
        have H1 : (if (t144.length : Int) = 18 then (if (t148.length : Int) = 18 then (if 16 ≤ (t144.length : Int) then (if 16 ≤ (t148.length : Int) then (if (((strOfNums (t144.take 16)).toList == (strOfNums (t148.take 16)).toList) == (a0_0 == a1_0 && (a0_1 == a1_1 && (a0_2 == a1_2 && (a0_3 == a1_3 && (a0_4 == a1_4)))))) = true then (if 4 ≤ (t144.length : Int) then (if 4 ≤ (t148.length : Int) then (if (((strOfNums (t144.take 4)).toList == (strOfNums (t148.take 4)).toList) == (a0_0 == a1_0)) = true then (if 8 ≤ 12 then (if 12 ≤ (t144.length : Int) then (if 12 ≤ (t148.length : Int) then (if (((strOfNums ((t144.take 12).drop 8)).toList == (strOfNums ((t148.take 12).drop 8)).toList) == (a0_2 == a1_2)) = true then (if 14 ≤ 16 then (some (((strOfNums ((t144.take 16).drop 14)).toList == (strOfNums ((t148.take 16).drop 14)).toList) == (a0_4 == a1_4))) else (none)) else (none)) else (none)) else (none)) else (none)) else (none)) else (none)) else (none)) else (none)) else (none)) else (none)) else (none)) else (none)) = some r := by rw [if_neg (show ¬ (false = true) by decide)] at H; exact H
        clear H
        have H := H1
        clear H1
        by_cases c18 : (t144.length : Int) = 18
        · rw [if_pos c18] at H
          have c18b0 : ((t144.length : Int) == 18) = true := beq_iff_eq.mpr c18
          have c18b1 : ((t144.length : Int) != 18) = false := bne_eq_false_iff_eq.mpr c18
          clear c18
          by_cases c19 : (t148.length : Int) = 18
          · rw [if_pos c19] at H
            have c19b0 : ((t148.length : Int) == 18) = true := beq_iff_eq.mpr c19
            have c19b1 : ((t148.length : Int) != 18) = false := bne_eq_false_iff_eq.mpr c19
            clear c19
            by_cases c20 : 16 ≤ (t144.length : Int)
            · rw [if_pos c20] at H
              have c20b0 := eq_true c20
              have c20b1 : decide (16 ≤ (t144.length : Int)) = true := decide_eq_true c20
              clear c20
              obtain ⟨y152, hy152⟩ : ∃ y_ : List Int, y_ = (t144.take 16) := ⟨_, rfl⟩
              replace H : (if 16 ≤ (t148.length : Int) then (if (((strOfNums y152).toList == (strOfNums (t148.take 16)).toList) == (a0_0 == a1_0 && (a0_1 == a1_1 && (a0_2 == a1_2 && (a0_3 == a1_3 && (a0_4 == a1_4)))))) = true then (if 4 ≤ (t144.length : Int) then (if 4 ≤ (t148.length : Int) then (if (((strOfNums (t144.take 4)).toList == (strOfNums (t148.take 4)).toList) == (a0_0 == a1_0)) = true then (if 8 ≤ 12 then (if 12 ≤ (t144.length : Int) then (if 12 ≤ (t148.length : Int) then (if (((strOfNums ((t144.take 12).drop 8)).toList == (strOfNums ((t148.take 12).drop 8)).toList) == (a0_2 == a1_2)) = true then (if 14 ≤ 16 then (some (((strOfNums ((t144.take 16).drop 14)).toList == (strOfNums ((t148.take 16).drop 14)).toList) == (a0_4 == a1_4))) else (none)) else (none)) else (none)) else (none)) else (none)) else (none)) else (none)) else (none)) else (none)) else (none)) = some r := by first | (rw [hy152]; with_reducible exact H) | (have H2_ := (Option.bind_some _ _).symm.trans H; rw [hy152]; with_reducible exact H2_) | (have H2_ := (Option.bind_some _ _).symm.trans H; with_reducible exact H2_) | with_reducible exact H | (rw [hy152]; exact H) | exact H
              have Ny152 := Aside0.mk hy152
              clear hy152
              by_cases c21 : 16 ≤ (t148.length : Int)
              · rw [if_pos c21] at H
                have c21b0 := eq_true c21
                have c21b1 : decide (16 ≤ (t148.length : Int)) = true := decide_eq_true c21
                clear c21
                obtain ⟨y156, hy156⟩ : ∃ y_ : List Int, y_ = (t148.take 16) := ⟨_, rfl⟩
                replace H : (if (((strOfNums y152).toList == (strOfNums y156).toList) == (a0_0 == a1_0 && (a0_1 == a1_1 && (a0_2 == a1_2 && (a0_3 == a1_3 && (a0_4 == a1_4)))))) = true then (if 4 ≤ (t144.length : Int) then (if 4 ≤ (t148.length : Int) then (if (((strOfNums (t144.take 4)).toList == (strOfNums (t148.take 4)).toList) == (a0_0 == a1_0)) = true then (if 8 ≤ 12 then (if 12 ≤ (t144.length : Int) then (if 12 ≤ (t148.length : Int) then (if (((strOfNums ((t144.take 12).drop 8)).toList == (strOfNums ((t148.take 12).drop 8)).toList) == (a0_2 == a1_2)) = true then (if 14 ≤ 16 then (some (((strOfNums ((t144.take 16).drop 14)).toList == (strOfNums ((t148.take 16).drop 14)).toList) == (a0_4 == a1_4))) else (none)) else (none)) else (none)) else (none)) else (none)) else (none)) else (none)) else (none)) else (none)) = some r := by first | (rw [hy156]; with_reducible exact H) | (have H2_ := (Option.bind_some _ _).symm.trans H; rw [hy156]; with_reducible exact H2_) | (have H2_ := (Option.bind_some _ _).symm.trans H; with_reducible exact H2_) | with_reducible exact H | (rw [hy156]; exact H) | exact H
                have Ny156 := Aside0.mk hy156
                clear hy156
                by_cases c22 : (((strOfNums y152).toList == (strOfNums y156).toList) == (a0_0 == a1_0 && (a0_1 == a1_1 && (a0_2 == a1_2 && (a0_3 == a1_3 && (a0_4 == a1_4)))))) = true
                · rw [if_pos c22] at H
                  have c22b0 : (((strOfNums y152).toList == (strOfNums y156).toList) == (a0_0 == a1_0 && (a0_1 == a1_1 && (a0_2 == a1_2 && (a0_3 == a1_3 && (a0_4 == a1_4)))))) = true := c22
                  (try (have c22b1 : decide (((strOfNums y152).toList == (strOfNums y156).toList) = (a0_0 == a1_0 && (a0_1 == a1_1 && (a0_2 == a1_2 && (a0_3 == a1_3 && (a0_4 == a1_4)))))) = true := by simpa using c22))
                  (try (have c22b2 : (((strOfNums y152).toList == (strOfNums y156).toList) == (a0_0 == a1_0 && (a0_1 == a1_1 && (a0_2 == a1_2 && (a0_3 == a1_3 && (a0_4 == a1_4)))))) = true := by simpa using c22))
                  clear c22
                  by_cases c23 : 4 ≤ (t144.length : Int)
                  · rw [if_pos c23] at H
                    have c23b0 := eq_true c23
                    have c23b1 : decide (4 ≤ (t144.length : Int)) = true := decide_eq_true c23
                    clear c23
                    obtain ⟨y160, hy160⟩ : ∃ y_ : List Int, y_ = (t144.take 4) := ⟨_, rfl⟩
                    replace H : (if 4 ≤ (t148.length : Int) then (if (((strOfNums y160).toList == (strOfNums (t148.take 4)).toList) == (a0_0 == a1_0)) = true then (if 8 ≤ 12 then (if 12 ≤ (t144.length : Int) then (if 12 ≤ (t148.length : Int) then (if (((strOfNums ((t144.take 12).drop 8)).toList == (strOfNums ((t148.take 12).drop 8)).toList) == (a0_2 == a1_2)) = true then (if 14 ≤ 16 then (some (((strOfNums ((t144.take 16).drop 14)).toList == (strOfNums ((t148.take 16).drop 14)).toList) == (a0_4 == a1_4))) else (none)) else (none)) else (none)) else (none)) else (none)) else (none)) else (none)) = some r := by first | (rw [hy160]; with_reducible exact H) | (have H2_ := (Option.bind_some _ _).symm.trans H; rw [hy160]; with_reducible exact H2_) | (have H2_ := (Option.bind_some _ _).symm.trans H; with_reducible exact H2_) | with_reducible exact H | (rw [hy160]; exact H) | exact H
                    have Ny160 := Aside0.mk hy160
                    clear hy160
                    by_cases c24 : 4 ≤ (t148.length : Int)
                    · rw [if_pos c24] at H
                      have c24b0 := eq_true c24
                      have c24b1 : decide (4 ≤ (t148.length : Int)) = true := decide_eq_true c24
                      clear c24
                      obtain ⟨y164, hy164⟩ : ∃ y_ : List Int, y_ = (t148.take 4) := ⟨_, rfl⟩
                      replace H : (if (((strOfNums y160).toList == (strOfNums y164).toList) == (a0_0 == a1_0)) = true then (if 8 ≤ 12 then (if 12 ≤ (t144.length : Int) then (if 12 ≤ (t148.length : Int) then (if (((strOfNums ((t144.take 12).drop 8)).toList == (strOfNums ((t148.take 12).drop 8)).toList) == (a0_2 == a1_2)) = true then (if 14 ≤ 16 then (some (((strOfNums ((t144.take 16).drop 14)).toList == (strOfNums ((t148.take 16).drop 14)).toList) == (a0_4 == a1_4))) else (none)) else (none)) else (none)) else (none)) else (none)) else (none)) = some r := by first | (rw [hy164]; with_reducible exact H) | (have H2_ := (Option.bind_some _ _).symm.trans H; rw [hy164]; with_reducible exact H2_) | (have H2_ := (Option.bind_some _ _).symm.trans H; with_reducible exact H2_) | with_reducible exact H | (rw [hy164]; exact H) | exact H
                      have Ny164 := Aside0.mk hy164
                      clear hy164
                      by_cases c25 : (((strOfNums y160).toList == (strOfNums y164).toList) == (a0_0 == a1_0)) = true
                      · rw [if_pos c25] at H
                        have c25b0 : (((strOfNums y160).toList == (strOfNums y164).toList) == (a0_0 == a1_0)) = true := c25
                        (try (have c25b1 : decide (((strOfNums y160).toList == (strOfNums y164).toList) = (a0_0 == a1_0)) = true := by simpa using c25))
                        (try (have c25b2 : (((strOfNums y160).toList == (strOfNums y164).toList) == (a0_0 == a1_0)) = true := by simpa using c25))
                        clear c25
                        by_cases c26 : 8 ≤ 12
                        · rw [if_pos c26] at H
                          have c26b0 := eq_true c26
                          have c26b1 : decide (8 ≤ 12) = true := decide_eq_true c26
                          clear c26
                          by_cases c27 : 12 ≤ (t144.length : Int)
                          · rw [if_pos c27] at H
                            have c27b0 := eq_true c27
                            have c27b1 : decide (12 ≤ (t144.length : Int)) = true := decide_eq_true c27
                            clear c27
                            obtain ⟨y168, hy168⟩ : ∃ y_ : List Int, y_ = ((t144.take 12).drop 8) := ⟨_, rfl⟩
                            replace H : (if 12 ≤ (t148.length : Int) then (if (((strOfNums y168).toList == (strOfNums ((t148.take 12).drop 8)).toList) == (a0_2 == a1_2)) = true then (if 14 ≤ 16 then (some (((strOfNums ((t144.take 16).drop 14)).toList == (strOfNums ((t148.take 16).drop 14)).toList) == (a0_4 == a1_4))) else (none)) else (none)) else (none)) = some r := by first | (rw [hy168]; with_reducible exact H) | (have H2_ := (Option.bind_some _ _).symm.trans H; rw [hy168]; with_reducible exact H2_) | (have H2_ := (Option.bind_some _ _).symm.trans H; with_reducible exact H2_) | with_reducible exact H | (rw [hy168]; exact H) | exact H
                            have Ny168 := Aside0.mk hy168
                            clear hy168
                            have c28b0 := eq_true (of_decide_eq_true (by first | (with_reducible assumption) | assumption) : 8 ≤ 12)
                            by_cases c29 : 12 ≤ (t148.length : Int)
                            · rw [if_pos c29] at H
                              have c29b0 := eq_true c29
                              have c29b1 : decide (12 ≤ (t148.length : Int)) = true := decide_eq_true c29
                              clear c29
                              obtain ⟨y172, hy172⟩ : ∃ y_ : List Int, y_ = ((t148.take 12).drop 8) := ⟨_, rfl⟩
                              replace H : (if (((strOfNums y168).toList == (strOfNums y172).toList) == (a0_2 == a1_2)) = true then (if 14 ≤ 16 then (some (((strOfNums ((t144.take 16).drop 14)).toList == (strOfNums ((t148.take 16).drop 14)).toList) == (a0_4 == a1_4))) else (none)) else (none)) = some r := by first | (rw [hy172]; with_reducible exact H) | (have H2_ := (Option.bind_some _ _).symm.trans H; rw [hy172]; with_reducible exact H2_) | (have H2_ := (Option.bind_some _ _).symm.trans H; with_reducible exact H2_) | with_reducible exact H | (rw [hy172]; exact H) | exact H
                              have Ny172 := Aside0.mk hy172
                              clear hy172
                              by_cases c30 : (((strOfNums y168).toList == (strOfNums y172).toList) == (a0_2 == a1_2)) = true
                              · rw [if_pos c30] at H
                                have c30b0 : (((strOfNums y168).toList == (strOfNums y172).toList) == (a0_2 == a1_2)) = true := c30
                                (try (have c30b1 : decide (((strOfNums y168).toList == (strOfNums y172).toList) = (a0_2 == a1_2)) = true := by simpa using c30))
                                (try (have c30b2 : (((strOfNums y168).toList == (strOfNums y172).toList) == (a0_2 == a1_2)) = true := by simpa using c30))
                                clear c30
                                by_cases c31 : 14 ≤ 16
                                · rw [if_pos c31] at H
                                  have c31b0 := eq_true c31
                                  have c31b1 : decide (14 ≤ 16) = true := decide_eq_true c31
                                  clear c31
                                  have c32b0 := eq_true (of_decide_eq_true (by first | (with_reducible assumption) | assumption) : 16 ≤ (t144.length : Int))
                                  obtain ⟨y176, hy176⟩ : ∃ y_ : List Int, y_ = ((t144.take 16).drop 14) := ⟨_, rfl⟩
                                  replace H : (some (((strOfNums y176).toList == (strOfNums ((t148.take 16).drop 14)).toList) == (a0_4 == a1_4))) = some r := by first | (rw [hy176]; with_reducible exact H) | (have H2_ := (Option.bind_some _ _).symm.trans H; rw [hy176]; with_reducible exact H2_) | (have H2_ := (Option.bind_some _ _).symm.trans H; with_reducible exact H2_) | with_reducible exact H | (rw [hy176]; exact H) | exact H
                                  have Ny176 := Aside0.mk hy176
                                  clear hy176
                                  have c33b0 := eq_true (of_decide_eq_true (by first | (with_reducible assumption) | assumption) : 14 ≤ 16)
                                  have c34b0 := eq_true (of_decide_eq_true (by first | (with_reducible assumption) | assumption) : 16 ≤ (t148.length : Int))
                                  obtain ⟨y180, hy180⟩ : ∃ y_ : List Int, y_ = ((t148.take 16).drop 14) := ⟨_, rfl⟩
                                  replace H : (some (((strOfNums y176).toList == (strOfNums y180).toList) == (a0_4 == a1_4))) = some r := by first | (rw [hy180]; with_reducible exact H) | (have H2_ := (Option.bind_some _ _).symm.trans H; rw [hy180]; with_reducible exact H2_) | (have H2_ := (Option.bind_some _ _).symm.trans H; with_reducible exact H2_) | with_reducible exact H | (rw [hy180]; exact H) | exact H
                                  have Ny180 := Aside0.mk hy180
                                  clear hy180
                                  obtain rfl := Option.some.inj H
                                  obtain ⟨Ao35, co35, eo35⟩ := Kd.R_slice HO_6.out
                                  subst eo35
                                  obtain ⟨Ao36, co36, eo36⟩ := Kd.R_slice HO_8.out
                                  subst eo36
                                  have q37 : (16 : Int) ≤ ((t144.length : Int) : Int) := of_decide_eq_true (by first | (with_reducible assumption) | assumption)
                                  obtain ⟨i037, hi037, _, hsz37, _⟩ := info_parts info5
                                  have hroom37 : t144.length ≤ co35 := (Kd.R_reads' HO_6.out).2.1
                                  have hC37 : Kd.C (Kd.int .u8) _ Ao35 t144.length t144 := (Kd.R_reads' HO_6.out).2.2
                                  have hcut37 := cut_to (P := Tryd.prog) 25 5 .i64 Tryd.underlying25 hi037 Ao35 t144.length co35 16 (by omega) q37 hroom37
                                  have hr37 := Kd.C_take (m := 16) hC37 (by omega)
                                  have hy37 : y152.length = (16 : Int).toNat := (by rw [Ny152.out, List.length_take]; omega)
                                  rw [← Ny152.out] at hr37
                                  rw [← hy37] at hcut37
                                  have HR155 := Aside0.mk hr37
                                  have HC155 := Aside0.mk (show y152.length ≤ co35 from by omega)
                                  clear hr37 hC37 hroom37 hi037 hsz37
                                  have KY37 := Aside0.mk hy37
                                  clear hy37
                                  have KL37 := Aside0.mk (show 16 ≤ t144.length from by omega)
                                  replace q37 := eq_true q37
                                  have hcv38 := Kd.C_string (P := Tryd.prog) (A := Ao35) (c := co35) Tryd.underlying25 Tryd.underlying5 Tryd.underlying9 (by repeat (first | (with_reducible exact HR155.out) | (with_reducible refine Kd.C_alloc ?_ _) | (with_reducible refine Kd.C_drewN ?_ _) | (with_reducible refine Kd.C_drew ?_) | exact HR155.out)); have hcv38z := fun (n_ : Nat) => Kd.C_string (P := Tryd.prog) (A := Ao35) (c := co35) Tryd.underlying25 Tryd.underlying5 Tryd.underlying9 (Kd.C_drewN HR155.out n_)
                                  have q39 : (16 : Int) ≤ ((t148.length : Int) : Int) := of_decide_eq_true (by first | (with_reducible assumption) | assumption)
                                  obtain ⟨i039, hi039, _, hsz39, _⟩ := info_parts info5
                                  have hroom39 : t148.length ≤ co36 := (Kd.R_reads' HO_8.out).2.1
                                  have hC39 : Kd.C (Kd.int .u8) _ Ao36 t148.length t148 := (Kd.R_reads' HO_8.out).2.2
                                  have hcut39 := cut_to (P := Tryd.prog) 25 5 .i64 Tryd.underlying25 hi039 Ao36 t148.length co36 16 (by omega) q39 hroom39
                                  have hr39 := Kd.C_take (m := 16) hC39 (by omega)
                                  have hy39 : y156.length = (16 : Int).toNat := (by rw [Ny156.out, List.length_take]; omega)
                                  rw [← Ny156.out] at hr39
                                  rw [← hy39] at hcut39
                                  have HR159 := Aside0.mk hr39
                                  have HC159 := Aside0.mk (show y156.length ≤ co36 from by omega)
                                  clear hr39 hC39 hroom39 hi039 hsz39
                                  have KY39 := Aside0.mk hy39
                                  clear hy39
                                  have KL39 := Aside0.mk (show 16 ≤ t148.length from by omega)
                                  replace q39 := eq_true q39
                                  have hcv40 := Kd.C_string (P := Tryd.prog) (A := Ao36) (c := co36) Tryd.underlying25 Tryd.underlying5 Tryd.underlying9 (by repeat (first | (with_reducible exact HR159.out) | (with_reducible refine Kd.C_alloc ?_ _) | (with_reducible refine Kd.C_drewN ?_ _) | (with_reducible refine Kd.C_drew ?_) | exact HR159.out)); have hcv40z := fun (n_ : Nat) => Kd.C_string (P := Tryd.prog) (A := Ao36) (c := co36) Tryd.underlying25 Tryd.underlying5 Tryd.underlying9 (Kd.C_drewN HR159.out n_)
                                  have hnb41 := NB141_142.out
                                  have hnc41 := NB142_141.out
                                  have hcz42_0 : wc.cell? ⟨gb141, 0, none⟩ = some (.int .i64 a0_0) := (blk_cell BK141.out 0).trans rfl
                                  have hcz42_1 : wc.cell? ⟨gb141, 1, none⟩ = some (.int .i64 a0_1) := (blk_cell BK141.out 1).trans rfl
                                  have hcz42_2 : wc.cell? ⟨gb141, 2, none⟩ = some (.int .i64 a0_2) := (blk_cell BK141.out 2).trans rfl
                                  have hcz42_3 : wc.cell? ⟨gb141, 3, none⟩ = some (.int .i64 a0_3) := (blk_cell BK141.out 3).trans rfl
                                  have hcz42_4 : wc.cell? ⟨gb141, 4, none⟩ = some (.int .i64 a0_4) := (blk_cell BK141.out 4).trans rfl
                                  have hfz42_0 := blk_frozen BK141.out 0
                                  have hfz42_1 := blk_frozen BK141.out 1
                                  have hfz42_2 := blk_frozen BK141.out 2
                                  have hfz42_3 := blk_frozen BK141.out 3
                                  have hfz42_4 := blk_frozen BK141.out 4
                                  have hcz43_0 : wc.cell? ⟨gb142, 0, none⟩ = some (.int .i64 a1_0) := (blk_cell BK142.out 0).trans rfl
                                  have hcz43_1 : wc.cell? ⟨gb142, 1, none⟩ = some (.int .i64 a1_1) := (blk_cell BK142.out 1).trans rfl
                                  have hcz43_2 : wc.cell? ⟨gb142, 2, none⟩ = some (.int .i64 a1_2) := (blk_cell BK142.out 2).trans rfl
                                  have hcz43_3 : wc.cell? ⟨gb142, 3, none⟩ = some (.int .i64 a1_3) := (blk_cell BK142.out 3).trans rfl
                                  have hcz43_4 : wc.cell? ⟨gb142, 4, none⟩ = some (.int .i64 a1_4) := (blk_cell BK142.out 4).trans rfl
                                  have hfz43_0 := blk_frozen BK142.out 0
                                  have hfz43_1 := blk_frozen BK142.out 1
                                  have hfz43_2 := blk_frozen BK142.out 2
                                  have hfz43_3 := blk_frozen BK142.out 3
                                  have hfz43_4 := blk_frozen BK142.out 4
                                  have q44 : (4 : Int) ≤ ((t144.length : Int) : Int) := of_decide_eq_true (by first | (with_reducible assumption) | assumption)
                                  obtain ⟨i044, hi044, _, hsz44, _⟩ := info_parts info5
                                  have hroom44 : t144.length ≤ co35 := (Kd.R_reads' HO_6.out).2.1
                                  have hC44 : Kd.C (Kd.int .u8) _ Ao35 t144.length t144 := (Kd.R_reads' HO_6.out).2.2
                                  have hcut44 := cut_to (P := Tryd.prog) 25 5 .i64 Tryd.underlying25 hi044 Ao35 t144.length co35 4 (by omega) q44 hroom44
                                  have hr44 := Kd.C_take (m := 4) hC44 (by omega)
                                  have hy44 : y160.length = (4 : Int).toNat := (by rw [Ny160.out, List.length_take]; omega)
                                  rw [← Ny160.out] at hr44
                                  rw [← hy44] at hcut44
                                  have HR163 := Aside0.mk hr44
                                  have HC163 := Aside0.mk (show y160.length ≤ co35 from by omega)
                                  clear hr44 hC44 hroom44 hi044 hsz44
                                  have KY44 := Aside0.mk hy44
                                  clear hy44
                                  have KL44 := Aside0.mk (show 4 ≤ t144.length from by omega)
                                  replace q44 := eq_true q44
                                  have hcv45 := Kd.C_string (P := Tryd.prog) (A := Ao35) (c := co35) Tryd.underlying25 Tryd.underlying5 Tryd.underlying9 (by repeat (first | (with_reducible exact HR163.out) | (with_reducible refine Kd.C_alloc ?_ _) | (with_reducible refine Kd.C_drewN ?_ _) | (with_reducible refine Kd.C_drew ?_) | exact HR163.out)); have hcv45z := fun (n_ : Nat) => Kd.C_string (P := Tryd.prog) (A := Ao35) (c := co35) Tryd.underlying25 Tryd.underlying5 Tryd.underlying9 (Kd.C_drewN HR163.out n_)
                                  have q46 : (4 : Int) ≤ ((t148.length : Int) : Int) := of_decide_eq_true (by first | (with_reducible assumption) | assumption)
                                  obtain ⟨i046, hi046, _, hsz46, _⟩ := info_parts info5
                                  have hroom46 : t148.length ≤ co36 := (Kd.R_reads' HO_8.out).2.1
                                  have hC46 : Kd.C (Kd.int .u8) _ Ao36 t148.length t148 := (Kd.R_reads' HO_8.out).2.2
                                  have hcut46 := cut_to (P := Tryd.prog) 25 5 .i64 Tryd.underlying25 hi046 Ao36 t148.length co36 4 (by omega) q46 hroom46
                                  have hr46 := Kd.C_take (m := 4) hC46 (by omega)
                                  have hy46 : y164.length = (4 : Int).toNat := (by rw [Ny164.out, List.length_take]; omega)
                                  rw [← Ny164.out] at hr46
                                  rw [← hy46] at hcut46
                                  have HR167 := Aside0.mk hr46
                                  have HC167 := Aside0.mk (show y164.length ≤ co36 from by omega)
                                  clear hr46 hC46 hroom46 hi046 hsz46
                                  have KY46 := Aside0.mk hy46
                                  clear hy46
                                  have KL46 := Aside0.mk (show 4 ≤ t148.length from by omega)
                                  replace q46 := eq_true q46
                                  have hcv47 := Kd.C_string (P := Tryd.prog) (A := Ao36) (c := co36) Tryd.underlying25 Tryd.underlying5 Tryd.underlying9 (by repeat (first | (with_reducible exact HR167.out) | (with_reducible refine Kd.C_alloc ?_ _) | (with_reducible refine Kd.C_drewN ?_ _) | (with_reducible refine Kd.C_drew ?_) | exact HR167.out)); have hcv47z := fun (n_ : Nat) => Kd.C_string (P := Tryd.prog) (A := Ao36) (c := co36) Tryd.underlying25 Tryd.underlying5 Tryd.underlying9 (Kd.C_drewN HR167.out n_)
                                  have q48 : (12 : Int) ≤ ((t144.length : Int) : Int) := of_decide_eq_true (by first | (with_reducible assumption) | assumption)
                                  obtain ⟨i048, hi048, _, hsz48, _⟩ := info_parts info5
                                  have hroom48 : t144.length ≤ co35 := (Kd.R_reads' HO_6.out).2.1
                                  have hC48 : Kd.C (Kd.int .u8) _ Ao35 t144.length t144 := (Kd.R_reads' HO_6.out).2.2
                                  have ql48 : (8 : Int) ≤ (12 : Int) := (by omega)
                                  have hcut48 := cut_mid (P := Tryd.prog) 25 5 .i64 .i64 Tryd.underlying25 hi048 1 hsz48 Ao35 t144.length co35 8 12 (by omega) ql48 q48 hroom48
                                  have hr48 := Kd.C_mid (lo := (8 : Int).toNat) (hi := (12 : Int).toNat) (c := co35) hC48 (by omega) (by omega) hroom48
                                  obtain ⟨A48, hA48⟩ : ∃ A1, A1 = (if co35 = (8 : Int).toNat then Ao35 else (Ao35 : Option Addr).map (·.add ((8 : Int).toNat * 1))) := ⟨_, rfl⟩
                                  obtain ⟨c48, hc48⟩ : ∃ c1, c1 = co35 - (8 : Int).toNat := ⟨_, rfl⟩
                                  have hy48 : y168.length = (12 : Int).toNat - (8 : Int).toNat := (by rw [Ny168.out, List.length_drop, List.length_take] <;> omega)
                                  rw [show ((t144).take (12 : Int).toNat).drop (8 : Int).toNat = y168 from Ny168.out.symm] at hr48
                                  replace hr48 : Kd.C (Kd.int .u8) _ A48 y168.length y168 := (by rw [hA48]; exact hr48)
                                  rw [← hy48, ← hA48, ← hc48] at hcut48
                                  have HR171 := Aside0.mk hr48
                                  have HC171 := Aside0.mk (show y168.length ≤ c48 from by rw [hy48, hc48]; exact Nat.sub_le_sub_right (Nat.le_trans (by omega) hroom48) _)
                                  clear hr48 hC48 hroom48 hi048 hsz48 hc48
                                  have KY48 := Aside0.mk hy48
                                  have KA48 := Aside0.mk hA48
                                  clear hy48 hA48
                                  have KL48 := Aside0.mk (show 12 ≤ t144.length from by omega)
                                  have KM48 := Aside0.mk (show 8 ≤ 12 from by omega)
                                  replace q48 := eq_true q48
                                  have hcv49 := Kd.C_string (P := Tryd.prog) (A := A48) (c := c48) Tryd.underlying25 Tryd.underlying5 Tryd.underlying9 (by repeat (first | (with_reducible exact HR171.out) | (with_reducible refine Kd.C_alloc ?_ _) | (with_reducible refine Kd.C_drewN ?_ _) | (with_reducible refine Kd.C_drew ?_) | exact HR171.out)); have hcv49z := fun (n_ : Nat) => Kd.C_string (P := Tryd.prog) (A := A48) (c := c48) Tryd.underlying25 Tryd.underlying5 Tryd.underlying9 (Kd.C_drewN HR171.out n_)
                                  have q50 : (12 : Int) ≤ ((t148.length : Int) : Int) := of_decide_eq_true (by first | (with_reducible assumption) | assumption)
                                  obtain ⟨i050, hi050, _, hsz50, _⟩ := info_parts info5
                                  have hroom50 : t148.length ≤ co36 := (Kd.R_reads' HO_8.out).2.1
                                  have hC50 : Kd.C (Kd.int .u8) _ Ao36 t148.length t148 := (Kd.R_reads' HO_8.out).2.2
                                  have ql50 : (8 : Int) ≤ (12 : Int) := (by omega)
                                  have hcut50 := cut_mid (P := Tryd.prog) 25 5 .i64 .i64 Tryd.underlying25 hi050 1 hsz50 Ao36 t148.length co36 8 12 (by omega) ql50 q50 hroom50
                                  have hr50 := Kd.C_mid (lo := (8 : Int).toNat) (hi := (12 : Int).toNat) (c := co36) hC50 (by omega) (by omega) hroom50
                                  obtain ⟨A50, hA50⟩ : ∃ A1, A1 = (if co36 = (8 : Int).toNat then Ao36 else (Ao36 : Option Addr).map (·.add ((8 : Int).toNat * 1))) := ⟨_, rfl⟩
                                  obtain ⟨c50, hc50⟩ : ∃ c1, c1 = co36 - (8 : Int).toNat := ⟨_, rfl⟩
                                  have hy50 : y172.length = (12 : Int).toNat - (8 : Int).toNat := (by rw [Ny172.out, List.length_drop, List.length_take] <;> omega)
                                  rw [show ((t148).take (12 : Int).toNat).drop (8 : Int).toNat = y172 from Ny172.out.symm] at hr50
                                  replace hr50 : Kd.C (Kd.int .u8) _ A50 y172.length y172 := (by rw [hA50]; exact hr50)
                                  rw [← hy50, ← hA50, ← hc50] at hcut50
                                  have HR175 := Aside0.mk hr50
                                  have HC175 := Aside0.mk (show y172.length ≤ c50 from by rw [hy50, hc50]; exact Nat.sub_le_sub_right (Nat.le_trans (by omega) hroom50) _)
                                  clear hr50 hC50 hroom50 hi050 hsz50 hc50
                                  have KY50 := Aside0.mk hy50
                                  have KA50 := Aside0.mk hA50
                                  clear hy50 hA50
                                  have KL50 := Aside0.mk (show 12 ≤ t148.length from by omega)
                                  have KM50 := Aside0.mk (show 8 ≤ 12 from by omega)
                                  replace q50 := eq_true q50
                                  have hcv51 := Kd.C_string (P := Tryd.prog) (A := A50) (c := c50) Tryd.underlying25 Tryd.underlying5 Tryd.underlying9 (by repeat (first | (with_reducible exact HR175.out) | (with_reducible refine Kd.C_alloc ?_ _) | (with_reducible refine Kd.C_drewN ?_ _) | (with_reducible refine Kd.C_drew ?_) | exact HR175.out)); have hcv51z := fun (n_ : Nat) => Kd.C_string (P := Tryd.prog) (A := A50) (c := c50) Tryd.underlying25 Tryd.underlying5 Tryd.underlying9 (Kd.C_drewN HR175.out n_)
                                  have q52 : (16 : Int) ≤ ((t144.length : Int) : Int) := of_decide_eq_true (by first | (with_reducible assumption) | assumption)
                                  obtain ⟨i052, hi052, _, hsz52, _⟩ := info_parts info5
                                  have hroom52 : t144.length ≤ co35 := (Kd.R_reads' HO_6.out).2.1
                                  have hC52 : Kd.C (Kd.int .u8) _ Ao35 t144.length t144 := (Kd.R_reads' HO_6.out).2.2
                                  have ql52 : (14 : Int) ≤ (16 : Int) := (by omega)
                                  have hcut52 := cut_mid (P := Tryd.prog) 25 5 .i64 .i64 Tryd.underlying25 hi052 1 hsz52 Ao35 t144.length co35 14 16 (by omega) ql52 q52 hroom52
                                  have hr52 := Kd.C_mid (lo := (14 : Int).toNat) (hi := (16 : Int).toNat) (c := co35) hC52 (by omega) (by omega) hroom52
                                  obtain ⟨A52, hA52⟩ : ∃ A1, A1 = (if co35 = (14 : Int).toNat then Ao35 else (Ao35 : Option Addr).map (·.add ((14 : Int).toNat * 1))) := ⟨_, rfl⟩
                                  obtain ⟨c52, hc52⟩ : ∃ c1, c1 = co35 - (14 : Int).toNat := ⟨_, rfl⟩
                                  have hy52 : y176.length = (16 : Int).toNat - (14 : Int).toNat := (by rw [Ny176.out, List.length_drop, List.length_take] <;> omega)
                                  rw [show ((t144).take (16 : Int).toNat).drop (14 : Int).toNat = y176 from Ny176.out.symm] at hr52
                                  replace hr52 : Kd.C (Kd.int .u8) _ A52 y176.length y176 := (by rw [hA52]; exact hr52)
                                  rw [← hy52, ← hA52, ← hc52] at hcut52
                                  have HR179 := Aside0.mk hr52
                                  have HC179 := Aside0.mk (show y176.length ≤ c52 from by rw [hy52, hc52]; exact Nat.sub_le_sub_right (Nat.le_trans (by omega) hroom52) _)
                                  clear hr52 hC52 hroom52 hi052 hsz52 hc52
                                  have KY52 := Aside0.mk hy52
                                  have KA52 := Aside0.mk hA52
                                  clear hy52 hA52
                                  have KL52 := Aside0.mk (show 16 ≤ t144.length from by omega)
                                  have KM52 := Aside0.mk (show 14 ≤ 16 from by omega)
                                  replace q52 := eq_true q52
                                  have hcv53 := Kd.C_string (P := Tryd.prog) (A := A52) (c := c52) Tryd.underlying25 Tryd.underlying5 Tryd.underlying9 (by repeat (first | (with_reducible exact HR179.out) | (with_reducible refine Kd.C_alloc ?_ _) | (with_reducible refine Kd.C_drewN ?_ _) | (with_reducible refine Kd.C_drew ?_) | exact HR179.out)); have hcv53z := fun (n_ : Nat) => Kd.C_string (P := Tryd.prog) (A := A52) (c := c52) Tryd.underlying25 Tryd.underlying5 Tryd.underlying9 (Kd.C_drewN HR179.out n_)
                                  have q54 : (16 : Int) ≤ ((t148.length : Int) : Int) := of_decide_eq_true (by first | (with_reducible assumption) | assumption)
                                  obtain ⟨i054, hi054, _, hsz54, _⟩ := info_parts info5
                                  have hroom54 : t148.length ≤ co36 := (Kd.R_reads' HO_8.out).2.1
                                  have hC54 : Kd.C (Kd.int .u8) _ Ao36 t148.length t148 := (Kd.R_reads' HO_8.out).2.2
                                  have ql54 : (14 : Int) ≤ (16 : Int) := (by omega)
                                  have hcut54 := cut_mid (P := Tryd.prog) 25 5 .i64 .i64 Tryd.underlying25 hi054 1 hsz54 Ao36 t148.length co36 14 16 (by omega) ql54 q54 hroom54
                                  have hr54 := Kd.C_mid (lo := (14 : Int).toNat) (hi := (16 : Int).toNat) (c := co36) hC54 (by omega) (by omega) hroom54
                                  obtain ⟨A54, hA54⟩ : ∃ A1, A1 = (if co36 = (14 : Int).toNat then Ao36 else (Ao36 : Option Addr).map (·.add ((14 : Int).toNat * 1))) := ⟨_, rfl⟩
                                  obtain ⟨c54, hc54⟩ : ∃ c1, c1 = co36 - (14 : Int).toNat := ⟨_, rfl⟩
                                  have hy54 : y180.length = (16 : Int).toNat - (14 : Int).toNat := (by rw [Ny180.out, List.length_drop, List.length_take] <;> omega)
                                  rw [show ((t148).take (16 : Int).toNat).drop (14 : Int).toNat = y180 from Ny180.out.symm] at hr54
                                  replace hr54 : Kd.C (Kd.int .u8) _ A54 y180.length y180 := (by rw [hA54]; exact hr54)
                                  rw [← hy54, ← hA54, ← hc54] at hcut54
                                  have HR183 := Aside0.mk hr54
                                  have HC183 := Aside0.mk (show y180.length ≤ c54 from by rw [hy54, hc54]; exact Nat.sub_le_sub_right (Nat.le_trans (by omega) hroom54) _)
                                  clear hr54 hC54 hroom54 hi054 hsz54 hc54
                                  have KY54 := Aside0.mk hy54
                                  have KA54 := Aside0.mk hA54
                                  clear hy54 hA54
                                  have KL54 := Aside0.mk (show 16 ≤ t148.length from by omega)
                                  have KM54 := Aside0.mk (show 14 ≤ 16 from by omega)
                                  replace q54 := eq_true q54
                                  have hcv55 := Kd.C_string (P := Tryd.prog) (A := A54) (c := c54) Tryd.underlying25 Tryd.underlying5 Tryd.underlying9 (by repeat (first | (with_reducible exact HR183.out) | (with_reducible refine Kd.C_alloc ?_ _) | (with_reducible refine Kd.C_drewN ?_ _) | (with_reducible refine Kd.C_drew ?_) | exact HR183.out)); have hcv55z := fun (n_ : Nat) => Kd.C_string (P := Tryd.prog) (A := A54) (c := c54) Tryd.underlying25 Tryd.underlying5 Tryd.underlying9 (Kd.C_drewN HR183.out n_)
                                  go_wp2
                                  repeat (go_quiet (fail); try go_wp2)
                                  go_ret
                                  exact ⟨by first | rfl | (simp [errW_none, errW_some] <;> rfl) | (simp [*, errW_none, errW_some] <;> rfl), by repeat (first | (with_reducible first | exact HB.out | apply below_alloc | apply pw_below_drewN | apply below_drew1 | refine below_set ?_ GE141.out | refine below_set ?_ GE142.out) | exact HB.out)⟩
                                · rw [if_neg c31] at H
                                  exact absurd H (by simp)
                              · rw [if_neg c30] at H
                                exact absurd H (by simp)
                            · rw [if_neg c29] at H
                              exact absurd H (by simp)
                          · rw [if_neg c27] at H
                            exact absurd H (by simp)
                        · rw [if_neg c26] at H
                          exact absurd H (by simp)
                      · rw [if_neg c25] at H
                        exact absurd H (by simp)
                    · rw [if_neg c24] at H
                      exact absurd H (by simp)
                  · rw [if_neg c23] at H
                    exact absurd H (by simp)
                · rw [if_neg c22] at H
                  exact absurd H (by simp)
              · rw [if_neg c21] at H
                exact absurd H (by simp)
            · rw [if_neg c20] at H
              exact absurd H (by simp)
          · rw [if_neg c19] at H
            exact absurd H (by simp)
        · rw [if_neg c18] at H
          exact absurd H (by simp)

/-- THE ONE PURE STATEMENT of wayfinderlaw03_PacketFields: yours. -/
def wayfinderlaw03_PacketFields.Pure : Prop := ∀ (a0_0 : Int) (a0_1 : Int) (a0_2 : Int) (a0_3 : Int) (a0_4 : Int) (a1_0 : Int) (a1_1 : Int) (a1_2 : Int) (a1_3 : Int) (a1_4 : Int), (Lit.int .i64 a0_0).wf = true → (Lit.int .i64 a0_1).wf = true → (Lit.int .i64 a0_2).wf = true → (Lit.int .i64 a0_3).wf = true → (Lit.int .i64 a0_4).wf = true → (Lit.int .i64 a1_0).wf = true → (Lit.int .i64 a1_1).wf = true → (Lit.int .i64 a1_2).wf = true → (Lit.int .i64 a1_3).wf = true → (Lit.int .i64 a1_4).wf = true → ∃ k, wayfinderlaw03_PacketFields.f k a0_0 a0_1 a0_2 a0_3 a0_4 a1_0 a1_1 a1_2 a1_3 a1_4 = some true
theorem wayfinderlaw03_PacketFields.walk (P : wayfinderlaw03_PacketFields.Pure) (a0_0 : Int) (a0_1 : Int) (a0_2 : Int) (a0_3 : Int) (a0_4 : Int) (a1_0 : Int) (a1_1 : Int) (a1_2 : Int) (a1_3 : Int) (a1_4 : Int) (w : World) (hG : Glob w) (w0_0 : (Lit.int .i64 a0_0).wf = true) (w0_1 : (Lit.int .i64 a0_1).wf = true) (w0_2 : (Lit.int .i64 a0_2).wf = true) (w0_3 : (Lit.int .i64 a0_3).wf = true) (w0_4 : (Lit.int .i64 a0_4).wf = true) (w1_0 : (Lit.int .i64 a1_0).wf = true) (w1_1 : (Lit.int .i64 a1_1).wf = true) (w1_2 : (Lit.int .i64 a1_2).wf = true) (w1_3 : (Lit.int .i64 a1_3).wf = true) (w1_4 : (Lit.int .i64 a1_4).wf = true) :
    Calls Tryd.prog 3 #[.agg #[.int .i64 a0_0, .int .i64 a0_1, .int .i64 a0_2, .int .i64 a0_3, .int .i64 a0_4], .agg #[.int .i64 a1_0, .int .i64 a1_1, .int .i64 a1_2, .int .i64 a1_3, .int .i64 a1_4]] w fun e w' => e = .returned (.bool true) ∧ Below w.heap.size w w' := by
  obtain ⟨k, h⟩ := P a0_0 a0_1 a0_2 a0_3 a0_4 a1_0 a1_1 a1_2 a1_3 a1_4 w0_0 w0_1 w0_2 w0_3 w0_4 w1_0 w1_1 w1_2 w1_3 w1_4
  refine (wayfinderlaw03_PacketFields.calls k a0_0 a0_1 a0_2 a0_3 a0_4 a1_0 a1_1 a1_2 a1_3 a1_4 true w hG h).mono ?_
  rintro e w' ⟨rfl, hd⟩
  exact ⟨rfl, hd⟩

end Go.Proofs.YtkidokbeabmpmaaDoor.All
