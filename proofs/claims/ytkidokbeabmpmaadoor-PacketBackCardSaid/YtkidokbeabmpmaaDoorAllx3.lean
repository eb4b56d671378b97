/- Contracts of Go functions that this seat comes to, each with a plain function that tells its answers; conditions: those that each contract names. Written by a program of this session (wip/print) over the print words. -/
import Derived.Test.YtkidokbeabmpmaaDoorAllx0
import Derived.Test.YtkidokbeabmpmaaDoorAllx2
namespace Go.Proofs.YtkidokbeabmpmaaDoor.All
open Go.RowKit Go.Proofs.YtkidokbeabmpmaaDoorW.PrintWords Go.Proofs.YtkidokbeabmpmaaDoorW.PrintLast Go.Proofs.YtkidokbeabmpmaaDoorW.PrintMore
attribute [local go_sem] max2_int min2_int max_two min_two max_three min_three max_four min_four   -- for this text's walks alone
set_option linter.unusedVariables false
set_option linter.unusedSimpArgs false

/-- the listed variable packet.widths, as it lies in memory -/
def wid_table : Array Value := #[.int .i64 4, .int .i64 4, .int .i64 4, .int .i64 2, .int .i64 2]
def Glob (w : World) : Prop := ∃ c t, w.heap[0]? = some (.cells c t (0, 0)) ∧ ∀ i, i < 5 → c[i]? = wid_table[i]?
theorem Glob.below {w w' : World} (h : Glob w) {n : Nat} (hn : n = w.heap.size) (hb : Below n w w') : Glob w' := by
  subst hn
  obtain ⟨c, t, h0, hT⟩ := h
  exact ⟨c, t, blk_below h0 hb, hT⟩
theorem Glob.C {w : World} (h : Glob w) {xs : List Int} (hx : xs = [4, 4, 4, 2, 2]) : Kd.C (Kd.int .i64) w (some ⟨0, 0, none⟩) xs.length xs := by
  subst hx
  obtain ⟨c, t, h0, hT⟩ := h
  refine Kd.C_of_reads (d := (0 : Int)) (h1 := fun _ => rfl) ⟨rfl, by decide, fun _ => ⟨⟨0, 0, none⟩, rfl, fun j hj => ?_⟩⟩
  have hj5 : j < 5 := hj
  have e := blk_cell h0 j
  rw [hT j hj5] at e
  have hj2 : j = 0 ∨ j = 1 ∨ j = 2 ∨ j = 3 ∨ j = 4 := by omega
  rcases hj2 with rfl | rfl | rfl | rfl | rfl <;> exact e
/-! ### packet_Put: function 10 -/
def packet_Put.f (k : Nat) (a0_0 : Int) (a0_1 : Int) (a0_2 : Int) (a0_3 : Int) (a0_4 : Int) : Option (List Int × Int) := (packet_May.f a0_0 a0_1 a0_2 a0_3 a0_4).bind fun t116 => (if t116 = true then ((octets_PutAll.f k (([a0_0, a0_1, a0_2, a0_3, a0_4] : List Int)) (([4, 4, 4, 2, 2] : List Int))).bind fun bt123 => (if bt123.2 = 0 then ((octets_Sum.f bt123.1).bind fun t127 => ((some (([(t127 / 256) % 256, (t127) % 256] : List Int) : List Int)).bind fun y128 => (if bt123.1.length + y128.length < 140737488355328 then (some ((bt123.1 ++ y128), 0)) else (none)))) else (some (([] : List Int), bt123.2)))) else (some (([] : List Int), 1)))
theorem packet_Put.mono : ∀ a0 a1 a2 a3 a4 k, LeO (packet_Put.f k a0 a1 a2 a3 a4) (packet_Put.f (k + 1) a0 a1 a2 a3 a4) := by
  intro a0 a1 a2 a3 a4 k
  unfold packet_Put.f
  repeat' first
      | (with_reducible exact octets_PutAll.mono _ _ _)
      | (with_reducible exact LeO.refl _)
      | (with_reducible exact LeO.none _)
      | (with_reducible refine LeO.ite ?_ ?_)
      | (with_reducible refine LeO.bind ?_ (fun _ => ?_))
      | exact octets_PutAll.mono _ _ _
      | exact LeO.none _
      | refine LeO.ite ?_ ?_
      | refine LeO.bind ?_ (fun _ => ?_)
def packet_Put.T3 : Bool × List (List Nat × List Nat) := (true, [([], []), ([0], [0]), ([], []), ([2], [2]), ([], []), ([4], [4]), ([], []), ([6], [6]), ([], []), ([8], [8]), ([1, 3, 5, 7, 9], [1, 3, 5, 7, 9]), ([], []), ([10, 11], [10, 11]), ([12], [12]), ([13], [13]), ([13], [13]), ([14, 12, 0, 1, 2, 3, 4, 5, 6, 7, 8, 9, 10, 11, 12, 13, 14], [14]), ([15, 16, 0, 1, 2, 3, 4, 5, 6, 7, 8, 9, 10, 11, 12, 13, 14, 15, 16], [15])])
def packet_Put.B3 : List Nat := [0, 1, 0, 4, 0, 16, 0, 64, 0, 256, 1023, 0, 4095, 8191, 16383, 16383, 32767, 131071]
theorem packet_Put.tab3 : rtab .any (opsOf Tryd.f10 3) = packet_Put.T3 := by kernel_rfl
theorem packet_Put.bits3 : waitsOk packet_Put.T3.2 packet_Put.B3 = true := by kernel_rfl
set_option maxHeartbeats 8000000 in
set_option maxRecDepth 100000 in
theorem packet_Put.calls (k : Nat) (a0_0 : Int) (a0_1 : Int) (a0_2 : Int) (a0_3 : Int) (a0_4 : Int) (r1 : List Int) (r2 : Int) (w : World) (hG : Glob w) (h : packet_Put.f k a0_0 a0_1 a0_2 a0_3 a0_4 = some (r1, r2)) :
    Calls Tryd.prog 10 #[.agg #[.int .i64 a0_0, .int .i64 a0_1, .int .i64 a0_2, .int .i64 a0_3, .int .i64 a0_4]] w fun e w' => ∃ v0_ : Value, e = .returned (.tuple #[v0_, .int .i64 r2]) ∧ Kd.R (Kd.int .u8) 5 w' w.heap.size (fun _ => True) v0_ r1 ∧ Below w.heap.size w w' := by
  have hu23 := Tryd.underlying23
  have HB := Aside0.mk (Below.refl w.heap.size w)
  have H : ((packet_May.f a0_0 a0_1 a0_2 a0_3 a0_4).bind fun t116 => (if t116 = true then ((octets_PutAll.f k (([a0_0, a0_1, a0_2, a0_3, a0_4] : List Int)) (([4, 4, 4, 2, 2] : List Int))).bind fun bt123 => (if bt123.2 = 0 then ((octets_Sum.f bt123.1).bind fun t127 => ((some (([(t127 / 256) % 256, (t127) % 256] : List Int) : List Int)).bind fun y128 => (if bt123.1.length + y128.length < 140737488355328 then (some ((bt123.1 ++ y128), 0)) else (none)))) else (some (([] : List Int), bt123.2)))) else (some (([] : List Int), 1)))) = some (r1, r2) := h
  clear h
  replace H := Option.bind_eq_some_iff.mp H
  obtain ⟨t116, A20, H⟩ := H
  replace H : (if t116 = true then ((octets_PutAll.f k (([a0_0, a0_1, a0_2, a0_3, a0_4] : List Int)) (([4, 4, 4, 2, 2] : List Int))).bind fun bt123 => (if bt123.2 = 0 then ((octets_Sum.f bt123.1).bind fun t127 => ((some (([(t127 / 256) % 256, (t127) % 256] : List Int) : List Int)).bind fun y128 => (if bt123.1.length + y128.length < 140737488355328 then (some ((bt123.1 ++ y128), 0)) else (none)))) else (some (([] : List Int), bt123.2)))) else (some (([] : List Int), 1))) = some (r1, r2) := H
  have A2 := Aside0.mk A20
  clear A20
  by_cases c3 : t116 = true
  · subst c3
    have H1 : ((octets_PutAll.f k (([a0_0, a0_1, a0_2, a0_3, a0_4] : List Int)) (([4, 4, 4, 2, 2] : List Int))).bind fun bt123 => (if bt123.2 = 0 then ((octets_Sum.f bt123.1).bind fun t127 => ((some (([(t127 / 256) % 256, (t127) % 256] : List Int) : List Int)).bind fun y128 => (if bt123.1.length + y128.length < 140737488355328 then (some ((bt123.1 ++ y128), 0)) else (none)))) else (some (([] : List Int), bt123.2)))) = some (r1, r2) := by rw [if_pos rfl] at H; exact H
    clear H
    have H := H1
    clear H1
    obtain ⟨y117, hy117⟩ : ∃ y_ : List Int, y_ = (([a0_0, a0_1, a0_2, a0_3, a0_4] : List Int)) := ⟨_, rfl⟩
    replace H : ((octets_PutAll.f k y117 (([4, 4, 4, 2, 2] : List Int))).bind fun bt123 => (if bt123.2 = 0 then ((octets_Sum.f bt123.1).bind fun t127 => ((some (([(t127 / 256) % 256, (t127) % 256] : List Int) : List Int)).bind fun y128 => (if bt123.1.length + y128.length < 140737488355328 then (some ((bt123.1 ++ y128), 0)) else (none)))) else (some (([] : List Int), bt123.2)))) = some (r1, r2) := by first | (rw [hy117]; with_reducible exact H) | (have H2_ := (Option.bind_some _ _).symm.trans H; rw [hy117]; with_reducible exact H2_) | (have H2_ := (Option.bind_some _ _).symm.trans H; with_reducible exact H2_) | with_reducible exact H | (rw [hy117]; exact H) | exact H
    have Ny117 := Aside0.mk hy117
    clear hy117
    obtain ⟨y120, hy120⟩ : ∃ y_ : List Int, y_ = (([4, 4, 4, 2, 2] : List Int)) := ⟨_, rfl⟩
    replace H : ((octets_PutAll.f k y117 y120).bind fun bt123 => (if bt123.2 = 0 then ((octets_Sum.f bt123.1).bind fun t127 => ((some (([(t127 / 256) % 256, (t127) % 256] : List Int) : List Int)).bind fun y128 => (if bt123.1.length + y128.length < 140737488355328 then (some ((bt123.1 ++ y128), 0)) else (none)))) else (some (([] : List Int), bt123.2)))) = some (r1, r2) := by first | (rw [hy120]; with_reducible exact H) | (have H2_ := (Option.bind_some _ _).symm.trans H; rw [hy120]; with_reducible exact H2_) | (have H2_ := (Option.bind_some _ _).symm.trans H; with_reducible exact H2_) | with_reducible exact H | (rw [hy120]; exact H) | exact H
    have Ny120 := Aside0.mk hy120
    clear hy120
    replace H := Option.bind_eq_some_iff.mp H
    obtain ⟨⟨t123, t124⟩, A40, H⟩ := H
    replace H : (if t124 = 0 then ((octets_Sum.f t123).bind fun t127 => ((some (([(t127 / 256) % 256, (t127) % 256] : List Int) : List Int)).bind fun y128 => (if t123.length + y128.length < 140737488355328 then (some ((t123 ++ y128), 0)) else (none)))) else (some (([] : List Int), t124))) = some (r1, r2) := H
    have A4 := Aside0.mk A40
    clear A40
    by_cases c5 : t124 = 0
    · rw [if_pos c5] at H
      have c5b0 : (t124 == 0) = true := beq_iff_eq.mpr c5
      have c5b1 : (t124 != 0) = false := bne_eq_false_iff_eq.mpr c5
      clear c5
      replace H := Option.bind_eq_some_iff.mp H
      obtain ⟨t127, A60, H⟩ := H
      replace H : ((some (([(t127 / 256) % 256, (t127) % 256] : List Int) : List Int)).bind fun y128 => (if t123.length + y128.length < 140737488355328 then (some ((t123 ++ y128), 0)) else (none))) = some (r1, r2) := H
      have A6 := Aside0.mk A60
      clear A60
      obtain ⟨y128, hy128⟩ : ∃ y_ : List Int, y_ = (([(t127 / 256) % 256, (t127) % 256] : List Int)) := ⟨_, rfl⟩
      replace H : (if t123.length + y128.length < 140737488355328 then (some ((t123 ++ y128), 0)) else (none)) = some (r1, r2) := by first | (rw [hy128]; with_reducible exact H) | (have H2_ := (Option.bind_some _ _).symm.trans H; rw [hy128]; with_reducible exact H2_) | (have H2_ := (Option.bind_some _ _).symm.trans H; with_reducible exact H2_) | with_reducible exact H | (rw [hy128]; exact H) | exact H
      have Ny128 := Aside0.mk hy128
      clear hy128
      by_cases c7 : t123.length + y128.length < 140737488355328
      · rw [if_pos c7] at H
        have LMc7 := Aside0.mk c7
        clear c7
        obtain ⟨y131, hy131⟩ : ∃ y_ : List Int, y_ = (t123 ++ y128) := ⟨_, rfl⟩
        replace H : (some (y131, 0)) = some (r1, r2) := by first | (rw [hy131]; with_reducible exact H) | (have H2_ := (Option.bind_some _ _).symm.trans H; rw [hy131]; with_reducible exact H2_) | (have H2_ := (Option.bind_some _ _).symm.trans H; with_reducible exact H2_) | with_reducible exact H | (rw [hy131]; exact H) | exact H
        have Ny131 := Aside0.mk hy131
        clear hy131
        simp only [Option.some.injEq, Prod.mk.injEq] at H
        obtain ⟨rfl, rfl⟩ := H
        go_enter Tryd.func10, Tryd.ntmps10
        try go_wp2_with (first | ((with_reducible refine gate_dst (N := 1) rfl ?_); refine box_event ?hg (N := 1) ?hd (cs := #[.int .i64 a0_0, .int .i64 a0_1, .int .i64 a0_2, .int .i64 a0_3, .int .i64 a0_4]) (t := 23) ?hr ?_; (case hd => rfl); (case hg => rfl); (case hr => first | (go_simp; done) | (go_simp; rfl)); intro gb115 hg w8 hbox hb; have n0_ := Aside0.mk (below_step (by repeat (first | (with_reducible first | exact HB.out | apply below_alloc | apply pw_below_drewN | apply below_drew1) | exact HB.out)) hb); have n1_ := Aside0.mk (hbox); have n2_ := Aside0.mk ((by rw [hg]; exact (below_size (by repeat (first | (with_reducible first | exact HB.out | apply below_alloc | apply pw_below_drewN | apply below_drew1) | exact HB.out))) : w.heap.size ≤ gb115)); have n3_ := Aside0.mk ((by rw [hg]; exact (below_size (by repeat (first | (with_reducible first | exact HB.out | apply below_alloc | apply pw_below_drewN | apply below_drew1) | exact HB.out))) : w.heap.size ≤ gb115)); clear HB; have HB := n0_; have BK115 := n1_; have GW115 := n2_; have GE115 := n3_; clear n0_ n1_ n2_ n3_; clear hb hbox hg; have hcz9_0 : w8.cell? ⟨gb115, 0, none⟩ = some (.int .i64 a0_0) := (blk_cell BK115.out 0).trans rfl; have hcz9_1 : w8.cell? ⟨gb115, 1, none⟩ = some (.int .i64 a0_1) := (blk_cell BK115.out 1).trans rfl; have hcz9_2 : w8.cell? ⟨gb115, 2, none⟩ = some (.int .i64 a0_2) := (blk_cell BK115.out 2).trans rfl; have hcz9_3 : w8.cell? ⟨gb115, 3, none⟩ = some (.int .i64 a0_3) := (blk_cell BK115.out 3).trans rfl; have hcz9_4 : w8.cell? ⟨gb115, 4, none⟩ = some (.int .i64 a0_4) := (blk_cell BK115.out 4).trans rfl; have hfz9_0 := blk_frozen BK115.out 0; have hfz9_1 := blk_frozen BK115.out 1; have hfz9_2 := blk_frozen BK115.out 2; have hfz9_3 := blk_frozen BK115.out 3; have hfz9_4 := blk_frozen BK115.out 4) | ((with_reducible refine gate_callee (f := 11) rfl ?_); refine goesL_ (some 8) rfl rfl Tryd.func11 (by kernel_rfl) rfl #[.agg #[.int .i64 a0_0, .int .i64 a0_1, .int .i64 a0_2, .int .i64 a0_3, .int .i64 a0_4]] rfl (by (try simp only [List.map_toArray, List.map_cons, List.map_nil]); first | done | rfl | (simp only [List.length_drop, List.length_take]; rfl)) ?_; (with_reducible refine (packet_May.calls a0_0 a0_1 a0_2 a0_3 a0_4 true _ A2.out).mono ?_); rintro e w10 ⟨rfl, hb⟩; refine ⟨_, rfl, ?_⟩; have n0_ := Aside0.mk (blk_below (g := gb115) (o := .cells #[.int .i64 a0_0, .int .i64 a0_1, .int .i64 a0_2, .int .i64 a0_3, .int .i64 a0_4] 23 (0, 0)) (by (with_reducible repeat (first | refine blk_drewN ?_ _ | refine blk_drew ?_ | refine blk_alloc ?_ _)); exact BK115.out) hb); have n1_ := Aside0.mk (below_step (by repeat (first | (with_reducible first | exact HB.out | apply below_alloc | apply pw_below_drewN | apply below_drew1 | refine below_set ?_ GE115.out) | exact HB.out)) hb); clear BK115; clear HB; have BK115 := n0_; have HB := n1_; clear n0_ n1_; (try clear hb); (try clear hb2); (try clear hk); (try clear hi)))
        have n0_ := Aside0.mk (blk_drew BK115.out)
        have n1_ := Aside0.mk (below_drew1 HB.out)
        clear BK115
        clear HB
        have BK115 := n0_
        have HB := n1_
        clear n0_ n1_
        refine start_ (n := 18) (S := fun w' => True) (ds := []) #[false, false, false, false, false, false, false, false, false, false, false, false, false, false, false, false, false, false] (by kernel_rfl) rfl rfl trivial (fun hHeld => ?_); refine with_tabW packet_Put.tab3 packet_Put.bits3 (fun HT_ HW_ => ?_)
        generalize w10.drew = w11 at BK115 HB hHeld ⊢
        refine pure_ (i := 0) (N := some 11) (v := ?_) (a' := ?_) #[true, false, false, false, false, false, false, false, false, false, false, false, false, false, false, false, false, false] rfl rfl (any_of HT_.out (by kernel_rfl)) (fun _ _ _ h => h) (Or.inl ⟨by rfl, ?_⟩) ?_ ?_
        rotate_left
        · intro w'
          go_simp
          with_reducible rfl
        rotate_left
        · simp only [Act.put, List.setIfInBounds_toArray, List.set_cons_zero, List.set_cons_succ, i64_w, i32_w]
          rfl
        refine pure_ (i := 2) (N := some 13) (v := ?_) (a' := ?_) #[true, false, true, false, false, false, false, false, false, false, false, false, false, false, false, false, false, false] rfl rfl (any_of HT_.out (by kernel_rfl)) (fun _ _ _ h => h) (Or.inl ⟨by rfl, ?_⟩) ?_ ?_
        rotate_left
        · intro w'
          go_simp
          with_reducible rfl
        rotate_left
        · simp only [Act.put, List.setIfInBounds_toArray, List.set_cons_zero, List.set_cons_succ, i64_w, i32_w]
          rfl
        refine pure_ (i := 4) (N := some 15) (v := ?_) (a' := ?_) #[true, false, true, false, true, false, false, false, false, false, false, false, false, false, false, false, false, false] rfl rfl (any_of HT_.out (by kernel_rfl)) (fun _ _ _ h => h) (Or.inl ⟨by rfl, ?_⟩) ?_ ?_
        rotate_left
        · intro w'
          go_simp
          with_reducible rfl
        rotate_left
        · simp only [Act.put, List.setIfInBounds_toArray, List.set_cons_zero, List.set_cons_succ, i64_w, i32_w]
          rfl
        refine pure_ (i := 6) (N := some 17) (v := ?_) (a' := ?_) #[true, false, true, false, true, false, true, false, false, false, false, false, false, false, false, false, false, false] rfl rfl (any_of HT_.out (by kernel_rfl)) (fun _ _ _ h => h) (Or.inl ⟨by rfl, ?_⟩) ?_ ?_
        rotate_left
        · intro w'
          go_simp
          with_reducible rfl
        rotate_left
        · simp only [Act.put, List.setIfInBounds_toArray, List.set_cons_zero, List.set_cons_succ, i64_w, i32_w]
          rfl
        refine pure_ (i := 8) (N := some 19) (v := ?_) (a' := ?_) #[true, false, true, false, true, false, true, false, true, false, false, false, false, false, false, false, false, false] rfl rfl (any_of HT_.out (by kernel_rfl)) (fun _ _ _ h => h) (Or.inl ⟨by rfl, ?_⟩) ?_ ?_
        rotate_left
        · intro w'
          go_simp
          with_reducible rfl
        rotate_left
        · simp only [Act.put, List.setIfInBounds_toArray, List.set_cons_zero, List.set_cons_succ, i64_w, i32_w]
          rfl
        refine inv_at [1, 3, 5, 7, 9, 10, 11, 12, 13, 14, 15, 16, 17] (fun a0_ b a w' => ∃ (v118 : Value) (v121 : Value) (v125 : Value) (m12_ : Value) (m13_ : Value) (m14_ : Value) (m16_ : Value), a = putSel a0_ b [(1, 12, .int .i64 a0_0), (3, 14, .int .i64 a0_1), (5, 16, .int .i64 a0_2), (7, 18, .int .i64 a0_3), (9, 20, .int .i64 a0_4), (10, 21, v118), (11, 22, v121), (12, 23, m12_), (13, 10, m13_), (14, 24, m14_), (15, 25, .int .i64 t124), (16, 4, m16_), (17, 5, .int .i64 t124)] ∧ (w'.heap[gb115]? = some (.cells #[.int .i64 a0_0, .int .i64 a0_1, .int .i64 a0_2, .int .i64 a0_3, .int .i64 a0_4] 23 (0, 0))) ∧ (Below w.heap.size w w') ∧ (b 10 = true → Kd.R (Kd.int .i64) 3 w' w.heap.size (fun _ => True) v118 y117) ∧ (b 11 = true → v121 = .slice (some ⟨0, 0, none⟩) 5 5) ∧ (b 12 = true → Kd.R (Kd.int .u8) 5 w' w.heap.size (fun _ => True) v125 t123) ∧ (b 12 = true → (m12_ : Value) = .tuple #[v125, .int .i64 t124]) ∧ (b 13 = true → (m13_ : Value) = .tuple #[v125, .int .i64 t124]) ∧ (b 14 = true → (m14_ : Value) = v125) ∧ (b 16 = true → (m16_ : Value) = v125)) HT_.out HW_.out (by kernel_rfl) (by kernel_rfl) ?_ ?_ ?_
        · exact ⟨.bool false, .bool false, .bool false, .bool false, .bool false, .bool false, .bool false, by simp only [putSel, Bool.false_eq_true, if_false], BK115.out, HB.out, fun h_ => absurd h_ (by decide), fun h_ => absurd h_ (by decide), fun h_ => absurd h_ (by decide), fun h_ => absurd h_ (by decide), fun h_ => absurd h_ (by decide), fun h_ => absurd h_ (by decide), fun h_ => absurd h_ (by decide)⟩
        · skip
          clear BK115 HB
          refine steps_cons ?_ ?_
          · rintro b a w' ⟨v118, v121, v125, m12_, m13_, m14_, m16_, ha, Q_BK115, Q_HB, Q_HO119, Q_HO122, Q_HO126, Q_X12_, Q_X13_, Q_X14_, Q_X16_⟩ hb_ hon hoff
            refine ⟨_, rfl, fun K hK => ?_⟩
            have e11 : a.tmps[11]? = some (.pointer (some ⟨gb115, 0, none⟩)) := by rw [ha]; exact (putSel_off rfl).trans rfl
            replace ha := Aside0.mk ha
            have BK115 := Aside0.mk Q_BK115
            have HB := Aside0.mk Q_HB
            have hc0_ : w'.cell? ⟨gb115, 0, none⟩ = some (.int .i64 a0_0) := (blk_cell BK115.out 0).trans rfl
            have hc1_ : w'.cell? ⟨gb115, 1, none⟩ = some (.int .i64 a0_1) := (blk_cell BK115.out 1).trans rfl
            have hc2_ : w'.cell? ⟨gb115, 2, none⟩ = some (.int .i64 a0_2) := (blk_cell BK115.out 2).trans rfl
            have hc3_ : w'.cell? ⟨gb115, 3, none⟩ = some (.int .i64 a0_3) := (blk_cell BK115.out 3).trans rfl
            have hc4_ : w'.cell? ⟨gb115, 4, none⟩ = some (.int .i64 a0_4) := (blk_cell BK115.out 4).trans rfl
            refine value_ (w1 := w') (v := .int .i64 a0_0) (by rfl) rfl ?_ ?_
            · go_simp
              (try simp only [i64_w])
              try rfl
            refine hK.out _ _ ⟨v118, v121, v125, m12_, m13_, m14_, m16_, (by rw [ha.out]; exact putSel_upk 0 hb_ rfl rfl rfl), Q_BK115, Q_HB, fun h0_ => absurd ((hoff 10 (by kernel_rfl)).symm.trans h0_) (by decide), Q_HO122, fun h0_ => absurd ((hoff 12 (by kernel_rfl)).symm.trans h0_) (by decide), fun h0_ => absurd ((hoff 12 (by kernel_rfl)).symm.trans h0_) (by decide), fun h0_ => absurd ((hoff 13 (by kernel_rfl)).symm.trans h0_) (by decide), fun h0_ => absurd ((hoff 14 (by kernel_rfl)).symm.trans h0_) (by decide), fun h0_ => absurd ((hoff 16 (by kernel_rfl)).symm.trans h0_) (by decide)⟩
          refine steps_cons ?_ ?_
          · rintro b a w' ⟨v118, v121, v125, m12_, m13_, m14_, m16_, ha, Q_BK115, Q_HB, Q_HO119, Q_HO122, Q_HO126, Q_X12_, Q_X13_, Q_X14_, Q_X16_⟩ hb_ hon hoff
            refine ⟨_, rfl, fun K hK => ?_⟩
            have e13 : a.tmps[13]? = some (.pointer (some ⟨gb115, 1, none⟩)) := by rw [ha]; exact (putSel_off rfl).trans rfl
            replace ha := Aside0.mk ha
            have BK115 := Aside0.mk Q_BK115
            have HB := Aside0.mk Q_HB
            have hc0_ : w'.cell? ⟨gb115, 0, none⟩ = some (.int .i64 a0_0) := (blk_cell BK115.out 0).trans rfl
            have hc1_ : w'.cell? ⟨gb115, 1, none⟩ = some (.int .i64 a0_1) := (blk_cell BK115.out 1).trans rfl
            have hc2_ : w'.cell? ⟨gb115, 2, none⟩ = some (.int .i64 a0_2) := (blk_cell BK115.out 2).trans rfl
            have hc3_ : w'.cell? ⟨gb115, 3, none⟩ = some (.int .i64 a0_3) := (blk_cell BK115.out 3).trans rfl
            have hc4_ : w'.cell? ⟨gb115, 4, none⟩ = some (.int .i64 a0_4) := (blk_cell BK115.out 4).trans rfl
            refine value_ (w1 := w') (v := .int .i64 a0_1) (by rfl) rfl ?_ ?_
            · go_simp
              (try simp only [i64_w])
              try rfl
            refine hK.out _ _ ⟨v118, v121, v125, m12_, m13_, m14_, m16_, (by rw [ha.out]; exact putSel_upk 1 hb_ rfl rfl rfl), Q_BK115, Q_HB, fun h0_ => absurd ((hoff 10 (by kernel_rfl)).symm.trans h0_) (by decide), Q_HO122, fun h0_ => absurd ((hoff 12 (by kernel_rfl)).symm.trans h0_) (by decide), fun h0_ => absurd ((hoff 12 (by kernel_rfl)).symm.trans h0_) (by decide), fun h0_ => absurd ((hoff 13 (by kernel_rfl)).symm.trans h0_) (by decide), fun h0_ => absurd ((hoff 14 (by kernel_rfl)).symm.trans h0_) (by decide), fun h0_ => absurd ((hoff 16 (by kernel_rfl)).symm.trans h0_) (by decide)⟩
          refine steps_cons ?_ ?_
          · rintro b a w' ⟨v118, v121, v125, m12_, m13_, m14_, m16_, ha, Q_BK115, Q_HB, Q_HO119, Q_HO122, Q_HO126, Q_X12_, Q_X13_, Q_X14_, Q_X16_⟩ hb_ hon hoff
            refine ⟨_, rfl, fun K hK => ?_⟩
            have e15 : a.tmps[15]? = some (.pointer (some ⟨gb115, 2, none⟩)) := by rw [ha]; exact (putSel_off rfl).trans rfl
            replace ha := Aside0.mk ha
            have BK115 := Aside0.mk Q_BK115
            have HB := Aside0.mk Q_HB
            have hc0_ : w'.cell? ⟨gb115, 0, none⟩ = some (.int .i64 a0_0) := (blk_cell BK115.out 0).trans rfl
            have hc1_ : w'.cell? ⟨gb115, 1, none⟩ = some (.int .i64 a0_1) := (blk_cell BK115.out 1).trans rfl
            have hc2_ : w'.cell? ⟨gb115, 2, none⟩ = some (.int .i64 a0_2) := (blk_cell BK115.out 2).trans rfl
            have hc3_ : w'.cell? ⟨gb115, 3, none⟩ = some (.int .i64 a0_3) := (blk_cell BK115.out 3).trans rfl
            have hc4_ : w'.cell? ⟨gb115, 4, none⟩ = some (.int .i64 a0_4) := (blk_cell BK115.out 4).trans rfl
            refine value_ (w1 := w') (v := .int .i64 a0_2) (by rfl) rfl ?_ ?_
            · go_simp
              (try simp only [i64_w])
              try rfl
            refine hK.out _ _ ⟨v118, v121, v125, m12_, m13_, m14_, m16_, (by rw [ha.out]; exact putSel_upk 2 hb_ rfl rfl rfl), Q_BK115, Q_HB, fun h0_ => absurd ((hoff 10 (by kernel_rfl)).symm.trans h0_) (by decide), Q_HO122, fun h0_ => absurd ((hoff 12 (by kernel_rfl)).symm.trans h0_) (by decide), fun h0_ => absurd ((hoff 12 (by kernel_rfl)).symm.trans h0_) (by decide), fun h0_ => absurd ((hoff 13 (by kernel_rfl)).symm.trans h0_) (by decide), fun h0_ => absurd ((hoff 14 (by kernel_rfl)).symm.trans h0_) (by decide), fun h0_ => absurd ((hoff 16 (by kernel_rfl)).symm.trans h0_) (by decide)⟩
          refine steps_cons ?_ ?_
          · rintro b a w' ⟨v118, v121, v125, m12_, m13_, m14_, m16_, ha, Q_BK115, Q_HB, Q_HO119, Q_HO122, Q_HO126, Q_X12_, Q_X13_, Q_X14_, Q_X16_⟩ hb_ hon hoff
            refine ⟨_, rfl, fun K hK => ?_⟩
            have e17 : a.tmps[17]? = some (.pointer (some ⟨gb115, 3, none⟩)) := by rw [ha]; exact (putSel_off rfl).trans rfl
            replace ha := Aside0.mk ha
            have BK115 := Aside0.mk Q_BK115
            have HB := Aside0.mk Q_HB
            have hc0_ : w'.cell? ⟨gb115, 0, none⟩ = some (.int .i64 a0_0) := (blk_cell BK115.out 0).trans rfl
            have hc1_ : w'.cell? ⟨gb115, 1, none⟩ = some (.int .i64 a0_1) := (blk_cell BK115.out 1).trans rfl
            have hc2_ : w'.cell? ⟨gb115, 2, none⟩ = some (.int .i64 a0_2) := (blk_cell BK115.out 2).trans rfl
            have hc3_ : w'.cell? ⟨gb115, 3, none⟩ = some (.int .i64 a0_3) := (blk_cell BK115.out 3).trans rfl
            have hc4_ : w'.cell? ⟨gb115, 4, none⟩ = some (.int .i64 a0_4) := (blk_cell BK115.out 4).trans rfl
            refine value_ (w1 := w') (v := .int .i64 a0_3) (by rfl) rfl ?_ ?_
            · go_simp
              (try simp only [i64_w])
              try rfl
            refine hK.out _ _ ⟨v118, v121, v125, m12_, m13_, m14_, m16_, (by rw [ha.out]; exact putSel_upk 3 hb_ rfl rfl rfl), Q_BK115, Q_HB, fun h0_ => absurd ((hoff 10 (by kernel_rfl)).symm.trans h0_) (by decide), Q_HO122, fun h0_ => absurd ((hoff 12 (by kernel_rfl)).symm.trans h0_) (by decide), fun h0_ => absurd ((hoff 12 (by kernel_rfl)).symm.trans h0_) (by decide), fun h0_ => absurd ((hoff 13 (by kernel_rfl)).symm.trans h0_) (by decide), fun h0_ => absurd ((hoff 14 (by kernel_rfl)).symm.trans h0_) (by decide), fun h0_ => absurd ((hoff 16 (by kernel_rfl)).symm.trans h0_) (by decide)⟩
          refine steps_cons ?_ ?_
          · rintro b a w' ⟨v118, v121, v125, m12_, m13_, m14_, m16_, ha, Q_BK115, Q_HB, Q_HO119, Q_HO122, Q_HO126, Q_X12_, Q_X13_, Q_X14_, Q_X16_⟩ hb_ hon hoff
            refine ⟨_, rfl, fun K hK => ?_⟩
            have e19 : a.tmps[19]? = some (.pointer (some ⟨gb115, 4, none⟩)) := by rw [ha]; exact (putSel_off rfl).trans rfl
            replace ha := Aside0.mk ha
            have BK115 := Aside0.mk Q_BK115
            have HB := Aside0.mk Q_HB
            have hc0_ : w'.cell? ⟨gb115, 0, none⟩ = some (.int .i64 a0_0) := (blk_cell BK115.out 0).trans rfl
            have hc1_ : w'.cell? ⟨gb115, 1, none⟩ = some (.int .i64 a0_1) := (blk_cell BK115.out 1).trans rfl
            have hc2_ : w'.cell? ⟨gb115, 2, none⟩ = some (.int .i64 a0_2) := (blk_cell BK115.out 2).trans rfl
            have hc3_ : w'.cell? ⟨gb115, 3, none⟩ = some (.int .i64 a0_3) := (blk_cell BK115.out 3).trans rfl
            have hc4_ : w'.cell? ⟨gb115, 4, none⟩ = some (.int .i64 a0_4) := (blk_cell BK115.out 4).trans rfl
            refine value_ (w1 := w') (v := .int .i64 a0_4) (by rfl) rfl ?_ ?_
            · go_simp
              (try simp only [i64_w])
              try rfl
            refine hK.out _ _ ⟨v118, v121, v125, m12_, m13_, m14_, m16_, (by rw [ha.out]; exact putSel_upk 4 hb_ rfl rfl rfl), Q_BK115, Q_HB, fun h0_ => absurd ((hoff 10 (by kernel_rfl)).symm.trans h0_) (by decide), Q_HO122, fun h0_ => absurd ((hoff 12 (by kernel_rfl)).symm.trans h0_) (by decide), fun h0_ => absurd ((hoff 12 (by kernel_rfl)).symm.trans h0_) (by decide), fun h0_ => absurd ((hoff 13 (by kernel_rfl)).symm.trans h0_) (by decide), fun h0_ => absurd ((hoff 14 (by kernel_rfl)).symm.trans h0_) (by decide), fun h0_ => absurd ((hoff 16 (by kernel_rfl)).symm.trans h0_) (by decide)⟩
          refine steps_cons ?_ ?_
          · rintro b a w' ⟨v118, v121, v125, m12_, m13_, m14_, m16_, ha, Q_BK115, Q_HB, Q_HO119, Q_HO122, Q_HO126, Q_X12_, Q_X13_, Q_X14_, Q_X16_⟩ hb_ hon hoff
            refine ⟨_, rfl, fun K hK => ?_⟩
            have e12 : a.tmps[12]? = some (.int .i64 a0_0) := by rw [ha]; exact putSel_on (e := (1, 12, .int .i64 a0_0)) 0 rfl rfl (hon 1 (by kernel_rfl)) rfl
            have e14 : a.tmps[14]? = some (.int .i64 a0_1) := by rw [ha]; exact putSel_on (e := (3, 14, .int .i64 a0_1)) 1 rfl rfl (hon 3 (by kernel_rfl)) rfl
            have e16 : a.tmps[16]? = some (.int .i64 a0_2) := by rw [ha]; exact putSel_on (e := (5, 16, .int .i64 a0_2)) 2 rfl rfl (hon 5 (by kernel_rfl)) rfl
            have e18 : a.tmps[18]? = some (.int .i64 a0_3) := by rw [ha]; exact putSel_on (e := (7, 18, .int .i64 a0_3)) 3 rfl rfl (hon 7 (by kernel_rfl)) rfl
            have e20 : a.tmps[20]? = some (.int .i64 a0_4) := by rw [ha]; exact putSel_on (e := (9, 20, .int .i64 a0_4)) 4 rfl rfl (hon 9 (by kernel_rfl)) rfl
            replace ha := Aside0.mk ha
            have BK115 := Aside0.mk Q_BK115
            have HB := Aside0.mk Q_HB
            refine Kd.R_lit_step (Kd.int .i64) _ 3 ?hg (N := 21) ?hd (xs := ([a0_0, a0_1, a0_2, a0_3, a0_4] : List Int)) (inner := [.int .i64 a0_0, .int .i64 a0_1, .int .i64 a0_2, .int .i64 a0_3, .int .i64 a0_4]) (ok := fun _ => True) (okp := fun _ => True) ?hr ?hp (fun _ hk => hk) trivial (Below.refl _ _) (Nat.le_refl _) (by simp) ?_; (case hd => rfl); (case hg => rfl); (case hr => first | (go_simp; done) | (go_simp; rfl)); (case hp => exact (Reps.one (show Kd.M (Kd.int .i64) _ _ _ a0_0 [.int .i64 a0_0] from rfl) (Reps.one (show Kd.M (Kd.int .i64) _ _ _ a0_1 [.int .i64 a0_1] from rfl) (Reps.one (show Kd.M (Kd.int .i64) _ _ _ a0_2 [.int .i64 a0_2] from rfl) (Reps.one (show Kd.M (Kd.int .i64) _ _ _ a0_3 [.int .i64 a0_3] from rfl) (Reps.one (show Kd.M (Kd.int .i64) _ _ _ a0_4 [.int .i64 a0_4] from rfl) (Reps.none _ _)))))))
            intro v118 w12 ho13 hb hg_ hnew_
            clear hg_ hnew_
            (first | rw [← Ny117.out] at ho13 | (simp only [Int.reduceToNat] at ho13; rw [← Ny117.out] at ho13))
            have n0_ := Aside0.mk (Kd.R_lower ho13 (below_size (by repeat (first | (with_reducible first | exact HB.out | apply below_alloc | apply pw_below_drewN | apply below_drew1 | refine below_set ?_ GE115.out) | exact HB.out))))
            have n1_ := Aside0.mk (blk_below (g := gb115) (o := .cells #[.int .i64 a0_0, .int .i64 a0_1, .int .i64 a0_2, .int .i64 a0_3, .int .i64 a0_4] 23 (0, 0)) (by (with_reducible repeat (first | refine blk_drewN ?_ _ | refine blk_drew ?_ | refine blk_alloc ?_ _)); exact BK115.out) hb)
            have n2_ := Aside0.mk (below_step (by repeat (first | (with_reducible first | exact HB.out | apply below_alloc | apply pw_below_drewN | apply below_drew1 | refine below_set ?_ GE115.out) | exact HB.out)) hb)
            have z_HO122 := Q_HO122
            clear BK115
            clear HB
            have HO119 := n0_
            have BK115 := n1_
            have HB := n2_
            clear n0_ n1_ n2_
            clear hb ho13
            refine hK.out _ _ ⟨v118, v121, v125, m12_, m13_, m14_, m16_, (by rw [ha.out]; exact putSel_upk 5 hb_ rfl rfl rfl), (by (with_reducible repeat (first | refine blk_drewN ?_ _ | refine blk_drew ?_ | refine blk_alloc ?_ _)); exact BK115.out), (by repeat (first | (with_reducible first | exact HB.out | apply below_alloc | apply pw_below_drewN | apply below_drew1 | refine below_set ?_ GE115.out) | exact HB.out)), fun _ => (by (with_reducible repeat (first | apply Kd.R_alloc | apply Kd.R_drewN | apply Kd.R_drew)); exact HO119.out), z_HO122, fun h0_ => absurd ((hoff 12 (by kernel_rfl)).symm.trans h0_) (by decide), fun h0_ => absurd ((hoff 12 (by kernel_rfl)).symm.trans h0_) (by decide), fun h0_ => absurd ((hoff 13 (by kernel_rfl)).symm.trans h0_) (by decide), fun h0_ => absurd ((hoff 14 (by kernel_rfl)).symm.trans h0_) (by decide), fun h0_ => absurd ((hoff 16 (by kernel_rfl)).symm.trans h0_) (by decide)⟩
          refine steps_cons ?_ ?_
          · rintro b a w' ⟨v118, v121, v125, m12_, m13_, m14_, m16_, ha, Q_BK115, Q_HB, Q_HO119, Q_HO122, Q_HO126, Q_X12_, Q_X13_, Q_X14_, Q_X16_⟩ hb_ hon hoff
            refine ⟨_, rfl, fun K hK => ?_⟩
            replace ha := Aside0.mk ha
            have BK115 := Aside0.mk Q_BK115
            have HB := Aside0.mk Q_HB
            refine value_ (w1 := w') (v := .slice (some ⟨0, 0, none⟩) 5 5) (by rfl) rfl ?_ ?_
            · go_simp
              (try simp only [i64_w])
              try rfl
            refine hK.out _ _ ⟨v118, .slice (some ⟨0, 0, none⟩) 5 5, v125, m12_, m13_, m14_, m16_, (by rw [ha.out]; exact putSel_upk 6 hb_ rfl rfl rfl), Q_BK115, Q_HB, Q_HO119, fun _ => rfl, fun h0_ => absurd ((hoff 12 (by kernel_rfl)).symm.trans h0_) (by decide), fun h0_ => absurd ((hoff 12 (by kernel_rfl)).symm.trans h0_) (by decide), fun h0_ => absurd ((hoff 13 (by kernel_rfl)).symm.trans h0_) (by decide), fun h0_ => absurd ((hoff 14 (by kernel_rfl)).symm.trans h0_) (by decide), fun h0_ => absurd ((hoff 16 (by kernel_rfl)).symm.trans h0_) (by decide)⟩
          refine steps_cons ?_ ?_
          · rintro b a w' ⟨v118, v121, v125, m12_, m13_, m14_, m16_, ha, Q_BK115, Q_HB, Q_HO119, Q_HO122, Q_HO126, Q_X12_, Q_X13_, Q_X14_, Q_X16_⟩ hb_ hon hoff
            refine ⟨_, rfl, fun K hK => ?_⟩
            have e21 : a.tmps[21]? = some (v118) := by rw [ha]; exact putSel_on (e := (10, 21, v118)) 5 rfl rfl (hon 10 (by kernel_rfl)) rfl
            have e22 : a.tmps[22]? = some (v121) := by rw [ha]; exact putSel_on (e := (11, 22, v121)) 6 rfl rfl (hon 11 (by kernel_rfl)) rfl
            replace ha := Aside0.mk ha
            have BK115 := Aside0.mk Q_BK115
            have HB := Aside0.mk Q_HB
            have HO119 := Aside0.mk (Q_HO119 (hon 10 (by kernel_rfl)))
            have HO122 := Aside0.mk (Q_HO122 (hon 11 (by kernel_rfl)))
            obtain ⟨Ao17, co17, eo17⟩ := Kd.R_slice HO119.out
            (first | subst eo17 | (injection eo17 with f1_ f2_ f3_; have f4_ := f1_.symm; have f5_ := f3_.symm; clear f1_ f2_ f3_; subst f4_; subst f5_))
            have eo18 := HO122.out
            (try subst eo18)
            refine goes_ Tryd.func16 (by kernel_rfl) rfl #[.slice Ao17 y117.length co17, .slice (some ⟨0, 0, none⟩) 5 5] (by rfl) rfl rfl (by first | (simp only [List.map_toArray, List.map_cons, List.map_nil, Act.eval, Array.getD_eq_getD_getElem?, Option.getD_some, e21, e22]; done) | (simp only [List.map_toArray, List.map_cons, List.map_nil, Act.eval, Array.getD_eq_getD_getElem?, Option.getD_some, e21, e22]; rfl)) ?_
            refine calls_of_args ?sideA ((octets_PutAll.calls k Ao17 co17 y117 (some ⟨0, 0, none⟩) 5 y120 t123 t124 _ ?side1 ?side2 ?side3 ?side4 A4.out).mono ?_)
            (case sideA => (rw [Ny120.out]; rfl))
            (case side1 => repeat (first | exact (Kd.R_reads' HO119.out).2.2 | (with_reducible refine Kd.C_alloc ?_ _) | (with_reducible refine Kd.C_drewN ?_ _) | (with_reducible refine Kd.C_drew ?_)))
            (case side2 => exact (Kd.R_reads' HO119.out).2.1)
            (case side3 => exact (hG.below rfl (by repeat (first | (with_reducible first | exact HB.out | apply below_alloc | apply pw_below_drewN | apply below_drew1 | refine below_set ?_ GE115.out) | exact HB.out))).C Ny120.out)
            (case side4 => (rw [Ny120.out]; decide))
            rintro e w19 ⟨v125, rfl, ho0, hb⟩
            refine ⟨_, rfl, ?_⟩
            have n0_ := Aside0.mk (Kd.R_below (by (with_reducible repeat (first | apply Kd.R_alloc | apply Kd.R_drewN | apply Kd.R_drew)); exact HO119.out) hb)
            have n1_ := HO122
            have n2_ := Aside0.mk (Kd.R_lower ho0 (below_size (by repeat (first | (with_reducible first | exact HB.out | apply below_alloc | apply pw_below_drewN | apply below_drew1 | refine below_set ?_ GE115.out) | exact HB.out))))
            have n3_ := Aside0.mk (blk_below (g := gb115) (o := .cells #[.int .i64 a0_0, .int .i64 a0_1, .int .i64 a0_2, .int .i64 a0_3, .int .i64 a0_4] 23 (0, 0)) (by (with_reducible repeat (first | refine blk_drewN ?_ _ | refine blk_drew ?_ | refine blk_alloc ?_ _)); exact BK115.out) hb)
            have n4_ := Aside0.mk (below_step (by repeat (first | (with_reducible first | exact HB.out | apply below_alloc | apply pw_below_drewN | apply below_drew1 | refine below_set ?_ GE115.out) | exact HB.out)) hb)
            clear HO119
            clear HO122
            clear BK115
            clear HB
            have HO119 := n0_
            have HO122 := n1_
            have HO126 := n2_
            have BK115 := n3_
            have HB := n4_
            clear n0_ n1_ n2_ n3_ n4_
            (try clear hb)
            (try clear hb2)
            (try clear hk)
            (try clear hi)
            (try clear ho0)
            refine hK.out _ _ ⟨.slice Ao17 y117.length co17, .slice (some ⟨0, 0, none⟩) 5 5, v125, (.tuple #[v125, .int .i64 t124]), m13_, m14_, m16_, (by rw [ha.out]; exact putSel_upk 7 hb_ rfl rfl rfl), (by (with_reducible repeat (first | refine blk_drewN ?_ _ | refine blk_drew ?_ | refine blk_alloc ?_ _)); exact BK115.out), (by repeat (first | (with_reducible first | exact HB.out | apply below_alloc | apply pw_below_drewN | apply below_drew1 | refine below_set ?_ GE115.out) | exact HB.out)), fun _ => (by (with_reducible repeat (first | apply Kd.R_alloc | apply Kd.R_drewN | apply Kd.R_drew)); exact HO119.out), fun _ => HO122.out, fun _ => (by (with_reducible repeat (first | apply Kd.R_alloc | apply Kd.R_drewN | apply Kd.R_drew)); exact HO126.out), fun _ => rfl, fun h0_ => absurd ((hoff 13 (by kernel_rfl)).symm.trans h0_) (by decide), fun h0_ => absurd ((hoff 14 (by kernel_rfl)).symm.trans h0_) (by decide), fun h0_ => absurd ((hoff 16 (by kernel_rfl)).symm.trans h0_) (by decide)⟩
          refine steps_cons ?_ ?_
          · rintro b a w' ⟨v118, v121, v125, m12_, m13_, m14_, m16_, ha, Q_BK115, Q_HB, Q_HO119, Q_HO122, Q_HO126, Q_X12_, Q_X13_, Q_X14_, Q_X16_⟩ hb_ hon hoff
            refine ⟨_, rfl, fun K hK => ?_⟩
            have e23 : a.tmps[23]? = some (m12_) := by rw [ha]; exact putSel_on (e := (12, 23, m12_)) 7 rfl rfl (hon 12 (by kernel_rfl)) rfl
            rw [Q_X12_ (hon 12 (by kernel_rfl))] at e23
            replace ha := Aside0.mk ha
            have BK115 := Aside0.mk Q_BK115
            have HB := Aside0.mk Q_HB
            have HO119 := Aside0.mk (Q_HO119 (hon 10 (by kernel_rfl)))
            have HO122 := Aside0.mk (Q_HO122 (hon 11 (by kernel_rfl)))
            have HO126 := Aside0.mk (Q_HO126 (hon 12 (by kernel_rfl)))
            refine value_ (w1 := w') (v := .tuple #[v125, .int .i64 t124]) (by rfl) rfl ?_ ?_
            · go_simp
              (try simp only [i64_w])
              try rfl
            refine hK.out _ _ ⟨v118, v121, v125, m12_, (.tuple #[v125, .int .i64 t124]), m14_, m16_, (by rw [ha.out]; exact putSel_upk 8 hb_ rfl rfl rfl), Q_BK115, Q_HB, Q_HO119, Q_HO122, Q_HO126, Q_X12_, fun _ => rfl, fun h0_ => absurd ((hoff 14 (by kernel_rfl)).symm.trans h0_) (by decide), fun h0_ => absurd ((hoff 16 (by kernel_rfl)).symm.trans h0_) (by decide)⟩
          refine steps_cons ?_ ?_
          · rintro b a w' ⟨v118, v121, v125, m12_, m13_, m14_, m16_, ha, Q_BK115, Q_HB, Q_HO119, Q_HO122, Q_HO126, Q_X12_, Q_X13_, Q_X14_, Q_X16_⟩ hb_ hon hoff
            refine ⟨_, rfl, fun K hK => ?_⟩
            have e10 : a.tmps[10]? = some (m13_) := by rw [ha]; exact putSel_on (e := (13, 10, m13_)) 8 rfl rfl (hon 13 (by kernel_rfl)) rfl
            rw [Q_X13_ (hon 13 (by kernel_rfl))] at e10
            replace ha := Aside0.mk ha
            have BK115 := Aside0.mk Q_BK115
            have HB := Aside0.mk Q_HB
            have HO119 := Aside0.mk (Q_HO119 (hon 10 (by kernel_rfl)))
            have HO122 := Aside0.mk (Q_HO122 (hon 11 (by kernel_rfl)))
            have HO126 := Aside0.mk (Q_HO126 (hon 12 (by kernel_rfl)))
            obtain ⟨Ao14_0, co14_0, eo_⟩ := Kd.R_slice HO126.out
            subst eo_
            refine value_ (w1 := w') (v := .slice Ao14_0 t123.length co14_0) (by rfl) rfl ?_ ?_
            · go_simp
              (try simp only [i64_w])
              try rfl
            refine hK.out _ _ ⟨v118, v121, .slice Ao14_0 t123.length co14_0, m12_, m13_, (.slice Ao14_0 t123.length co14_0), m16_, (by rw [ha.out]; exact putSel_upk 9 hb_ rfl rfl rfl), Q_BK115, Q_HB, Q_HO119, Q_HO122, Q_HO126, Q_X12_, Q_X13_, fun _ => rfl, fun h0_ => absurd ((hoff 16 (by kernel_rfl)).symm.trans h0_) (by decide)⟩
          refine steps_cons ?_ ?_
          · rintro b a w' ⟨v118, v121, v125, m12_, m13_, m14_, m16_, ha, Q_BK115, Q_HB, Q_HO119, Q_HO122, Q_HO126, Q_X12_, Q_X13_, Q_X14_, Q_X16_⟩ hb_ hon hoff
            refine ⟨_, rfl, fun K hK => ?_⟩
            have e10 : a.tmps[10]? = some (m13_) := by rw [ha]; exact putSel_on (e := (13, 10, m13_)) 8 rfl rfl (hon 13 (by kernel_rfl)) rfl
            rw [Q_X13_ (hon 13 (by kernel_rfl))] at e10
            replace ha := Aside0.mk ha
            have BK115 := Aside0.mk Q_BK115
            have HB := Aside0.mk Q_HB
            have HO119 := Aside0.mk (Q_HO119 (hon 10 (by kernel_rfl)))
            have HO122 := Aside0.mk (Q_HO122 (hon 11 (by kernel_rfl)))
            have HO126 := Aside0.mk (Q_HO126 (hon 12 (by kernel_rfl)))
            obtain ⟨Ao15_0, co15_0, eo_⟩ := Kd.R_slice HO126.out
            subst eo_
            refine value_ (w1 := w') (v := .int .i64 t124) (by rfl) rfl ?_ ?_
            · go_simp
              (try simp only [i64_w])
              try rfl
            refine hK.out _ _ ⟨v118, v121, .slice Ao15_0 t123.length co15_0, m12_, m13_, m14_, m16_, (by rw [ha.out]; exact putSel_upk 10 hb_ rfl rfl rfl), Q_BK115, Q_HB, Q_HO119, Q_HO122, Q_HO126, Q_X12_, Q_X13_, Q_X14_, Q_X16_⟩
          refine steps_cons ?_ ?_
          · rintro b a w' ⟨v118, v121, v125, m12_, m13_, m14_, m16_, ha, Q_BK115, Q_HB, Q_HO119, Q_HO122, Q_HO126, Q_X12_, Q_X13_, Q_X14_, Q_X16_⟩ hb_ hon hoff
            refine ⟨_, rfl, fun K hK => ?_⟩
            have e24 : a.tmps[24]? = some (m14_) := by rw [ha]; exact putSel_on (e := (14, 24, m14_)) 9 rfl rfl (hon 14 (by kernel_rfl)) rfl
            rw [Q_X14_ (hon 14 (by kernel_rfl))] at e24
            replace ha := Aside0.mk ha
            have BK115 := Aside0.mk Q_BK115
            have HB := Aside0.mk Q_HB
            have HO119 := Aside0.mk (Q_HO119 (hon 10 (by kernel_rfl)))
            have HO122 := Aside0.mk (Q_HO122 (hon 11 (by kernel_rfl)))
            have HO126 := Aside0.mk (Q_HO126 (hon 12 (by kernel_rfl)))
            refine value_ (w1 := w') (v := v125) (by rfl) rfl ?_ ?_
            · go_simp
              (try simp only [i64_w])
              try rfl
            refine hK.out _ _ ⟨v118, v121, v125, m12_, m13_, m14_, (v125), (by rw [ha.out]; exact putSel_upk 11 hb_ rfl rfl rfl), Q_BK115, Q_HB, Q_HO119, Q_HO122, Q_HO126, Q_X12_, Q_X13_, Q_X14_, fun _ => rfl⟩
          refine steps_cons ?_ ?_
          · rintro b a w' ⟨v118, v121, v125, m12_, m13_, m14_, m16_, ha, Q_BK115, Q_HB, Q_HO119, Q_HO122, Q_HO126, Q_X12_, Q_X13_, Q_X14_, Q_X16_⟩ hb_ hon hoff
            refine ⟨_, rfl, fun K hK => ?_⟩
            have e25 : a.tmps[25]? = some (.int .i64 t124) := by rw [ha]; exact putSel_on (e := (15, 25, .int .i64 t124)) 10 rfl rfl (hon 15 (by kernel_rfl)) rfl
            replace ha := Aside0.mk ha
            have BK115 := Aside0.mk Q_BK115
            have HB := Aside0.mk Q_HB
            have HO119 := Aside0.mk (Q_HO119 (hon 10 (by kernel_rfl)))
            have HO122 := Aside0.mk (Q_HO122 (hon 11 (by kernel_rfl)))
            have HO126 := Aside0.mk (Q_HO126 (hon 12 (by kernel_rfl)))
            refine value_ (w1 := w') (v := .int .i64 t124) (by rfl) rfl ?_ ?_
            · go_simp
              (try simp only [i64_w])
              try rfl
            refine hK.out _ _ ⟨v118, v121, v125, m12_, m13_, m14_, m16_, (by rw [ha.out]; exact putSel_upk 12 hb_ rfl rfl rfl), Q_BK115, Q_HB, Q_HO119, Q_HO122, Q_HO126, Q_X12_, Q_X13_, Q_X14_, Q_X16_⟩
          exact steps_nil
        rintro b a w19 hall ⟨v118, v121, v125, m12_, m13_, m14_, m16_, ha, Q_BK115, Q_HB, Q_HO119, Q_HO122, Q_HO126, Q_X12_, Q_X13_, Q_X14_, Q_X16_⟩
        clear BK115 HB
        have hb1_ := hall 1 (by kernel_rfl)
        have hb3_ := hall 3 (by kernel_rfl)
        have hb5_ := hall 5 (by kernel_rfl)
        have hb7_ := hall 7 (by kernel_rfl)
        have hb9_ := hall 9 (by kernel_rfl)
        have hb10_ := hall 10 (by kernel_rfl)
        have hb11_ := hall 11 (by kernel_rfl)
        have hb12_ := hall 12 (by kernel_rfl)
        have hb13_ := hall 13 (by kernel_rfl)
        have hb14_ := hall 14 (by kernel_rfl)
        have hb15_ := hall 15 (by kernel_rfl)
        have hb16_ := hall 16 (by kernel_rfl)
        have hb17_ := hall 17 (by kernel_rfl)
        subst ha
        obtain rfl := Q_X12_ hb12_
        obtain rfl := Q_X13_ hb13_
        obtain rfl := Q_X14_ hb14_
        obtain rfl := Q_X16_ hb16_
        simp only [putSel, hb1_, hb3_, hb5_, hb7_, hb9_, hb10_, hb11_, hb12_, hb13_, hb14_, hb15_, hb16_, hb17_, if_true, Act.put, List.setIfInBounds_toArray, List.set_cons_zero, List.set_cons_succ]
        have BK115 := Aside0.mk Q_BK115
        clear Q_BK115
        have HB := Aside0.mk Q_HB
        clear Q_HB
        have HO119 := Aside0.mk (Q_HO119 hb10_)
        clear Q_HO119
        have HO122 := Aside0.mk (Q_HO122 hb11_)
        clear Q_HO122
        have HO126 := Aside0.mk (Q_HO126 hb12_)
        clear Q_HO126
        clear hall hb1_ hb3_ hb5_ hb7_ hb9_ hb10_ hb11_ hb12_ hb13_ hb14_ hb15_ hb16_ hb17_
        obtain ⟨Ao20, co20, eo20⟩ := Kd.R_slice HO126.out
        subst eo20
        try go_wp2_with (first | ((with_reducible refine gate_callee (f := 17) rfl ?_); refine goesL_ (some 30) rfl rfl Tryd.func17 (by kernel_rfl) rfl #[.slice Ao20 t123.length co20] rfl (by (try simp only [List.map_toArray, List.map_cons, List.map_nil]); first | done | rfl | (simp only [List.length_drop, List.length_take]; rfl)) ?_; (with_reducible refine (octets_Sum.calls _ _ t123 t127 _ ?side1 ?side2 A6.out).mono ?_); (case side1 => repeat (first | exact (Kd.R_reads' HO126.out).2.2 | (with_reducible refine Kd.C_alloc ?_ _) | (with_reducible refine Kd.C_drewN ?_ _) | (with_reducible refine Kd.C_drew ?_))); (case side2 => exact (Kd.R_reads' HO126.out).2.1); rintro e w' ⟨rfl, ⟨nd, rfl⟩⟩; refine ⟨_, rfl, ?_⟩) | ((with_reducible refine gate_dst (N := 37) rfl ?_); refine Kd.R_lit (Kd.int .u8) _ 5 ?hg (N := 37) ?hd (xs := ([(t127 / 256) % 256, (t127) % 256] : List Int)) (inner := [.int .u8 ((t127 / 256) % 256), .int .u8 ((t127) % 256)]) (ok := fun _ => True) (okp := fun _ => True) ?hr ?hp (fun _ hk => hk) trivial (Below.refl _ _) (Nat.le_refl _) (by simp) ?_; (case hd => rfl); (case hg => rfl); (case hr => first | (go_simp; done) | (go_simp; rfl)); (case hp => exact (Reps.one (show Kd.M (Kd.int .u8) _ _ _ ((t127 / 256) % 256) [.int .u8 ((t127 / 256) % 256)] from rfl) (Reps.one (show Kd.M (Kd.int .u8) _ _ _ ((t127) % 256) [.int .u8 ((t127) % 256)] from rfl) (Reps.none _ _)))); intro v129 w21 ho22 hb hg_ hnew_; clear hg_ hnew_; (first | rw [← Ny128.out] at ho22 | (simp only [Int.reduceToNat] at ho22; rw [← Ny128.out] at ho22)); have n0_ := Aside0.mk (Kd.R_below (by (with_reducible repeat (first | apply Kd.R_alloc | apply Kd.R_drewN | apply Kd.R_drew)); exact HO119.out) hb); have n2_ := Aside0.mk (Kd.R_elder' (by (with_reducible repeat (first | apply Kd.R_alloc | apply Kd.R_drewN | apply Kd.R_drew)); exact HO126.out) (Kd.R_base ho22) hb); have n3_ := Aside0.mk (Kd.R_lower (Kd.R_new' ho22 (Kd.R_lt (by (with_reducible repeat (first | apply Kd.R_alloc | apply Kd.R_drewN | apply Kd.R_drew)); exact HO126.out))) (below_size (by repeat (first | (with_reducible first | exact HB.out | apply below_alloc | apply pw_below_drewN | apply below_drew1 | refine below_set ?_ GE115.out) | exact HB.out)))); have n4_ := Aside0.mk (blk_below (g := gb115) (o := .cells #[.int .i64 a0_0, .int .i64 a0_1, .int .i64 a0_2, .int .i64 a0_3, .int .i64 a0_4] 23 (0, 0)) (by (with_reducible repeat (first | refine blk_drewN ?_ _ | refine blk_drew ?_ | refine blk_alloc ?_ _)); exact BK115.out) hb); have n5_ := Aside0.mk (below_step (by repeat (first | (with_reducible first | exact HB.out | apply below_alloc | apply pw_below_drewN | apply below_drew1 | refine below_set ?_ GE115.out) | exact HB.out)) hb); clear HO119; clear HO126; clear BK115; clear HB; have HO119 := n0_; have HO126 := n2_; have HO130 := n3_; have BK115 := n4_; have HB := n5_; clear n0_ n2_ n3_ n4_ n5_; clear hb ho22; obtain ⟨Ao24, co24, eo24⟩ := Kd.R_slice HO130.out; subst eo24) | ((with_reducible refine gate_builtin (b := .append) (xs := #[.tmp 31, .tmp 37]) rfl ?_); at_builtin; refine Kd.R_append_rows (Kd.int .u8) (w0 := w) w.heap.size rfl (.tmp 31) (.tmp 37) 25 5 (.int .u8 0) 1 rfl Tryd.underlying25 info5 rfl (by decide) (by omega) (.slice Ao20 t123.length co20) t123 y128 _ _ _ (fun k_ => some k_ ≠ (.slice Ao24 y128.length co24 : Value).ownBlock) (fun _ => False) rfl rfl ?aO ?aR (fun _ _ h => h) (fun _ h => h.elim) ?aF ?aB ?aS ?aL ?_; (case aR => repeat (first | exact (Kd.R_reads' HO130.out).2.2 | (with_reducible refine Kd.C_alloc ?_ _) | (with_reducible refine Kd.C_drewN ?_ _) | (with_reducible refine Kd.C_drew ?_))); (case aB => exact (by repeat (first | (with_reducible first | exact HB.out | apply below_alloc | apply pw_below_drewN | apply below_drew1 | refine below_set ?_ GE115.out) | exact HB.out))); (case aF => exact (fun k_ hk => Kd.fresh' (Kd.R_lt (by (with_reducible repeat (first | apply Kd.R_alloc | apply Kd.R_drewN | apply Kd.R_drew)); exact HO130.out)) k_ hk)); (case aO => exact (by (with_reducible repeat (first | apply Kd.R_alloc | apply Kd.R_drewN | apply Kd.R_drew)); exact Kd.R_mono HO126.out (fun _ hk => hk.2))); (case aS => exact (below_size (by repeat (first | (with_reducible first | exact HB.out | apply below_alloc | apply pw_below_drewN | apply below_drew1 | refine below_set ?_ GE115.out) | exact HB.out)))); (case aL => have := LMc7.out; omega); intro v132 w23 ho hb hg hat; rw [← Ny131.out] at ho; have n0_ := Aside0.mk (blk_grown (g := gb115) (o := .cells #[.int .i64 a0_0, .int .i64 a0_1, .int .i64 a0_2, .int .i64 a0_3, .int .i64 a0_4] 23 (0, 0)) (by (with_reducible repeat (first | refine blk_drewN ?_ _ | refine blk_drew ?_ | refine blk_alloc ?_ _)); exact BK115.out) hg (Kd.R_ne HO126.out BK115.out (by decide))); have n1_ := Aside0.mk (Kd.R_over' (by (with_reducible repeat (first | apply Kd.R_alloc | apply Kd.R_drewN | apply Kd.R_drew)); exact HO119.out) (Kd.R_typed (by (with_reducible repeat (first | apply Kd.R_alloc | apply Kd.R_drewN | apply Kd.R_drew)); exact HO126.out)) (by decide) hg); have n3_ := Aside0.mk (Kd.R_after (ok := (fun _ => True)) (by (with_reducible repeat (first | apply Kd.R_alloc | apply Kd.R_drewN | apply Kd.R_drew)); exact HO130.out) hg hat); have n4_ := Aside0.mk (hb); have n5_ := Aside0.mk (ho); clear BK115; clear HO119; clear HO130; clear HB; clear HO126; have BK115 := n0_; have HO119 := n1_; have HO130 := n3_; have HB := n4_; have HO133 := n5_; clear n0_ n1_ n3_ n4_ n5_; clear ho hb hg hat))
        go_ret2
        exact ⟨_, by first | rfl | (simp [errW_none, errW_some] <;> rfl) | (simp [*, errW_none, errW_some] <;> rfl), by (with_reducible repeat (first | apply Kd.R_alloc | apply Kd.R_drewN | apply Kd.R_drew)); exact Kd.R_mono HO133.out (fun _ hk => trivial), by repeat (first | (with_reducible first | exact HB.out | apply below_alloc | apply pw_below_drewN | apply below_drew1 | refine below_set ?_ GE115.out) | exact HB.out)⟩
      · rw [if_neg c7] at H
        exact absurd H (by simp)
    · rw [if_neg c5] at H
      have c5b0 : (t124 == 0) = false := beq_eq_false_iff_ne.mpr c5
      have c5b1 : (t124 != 0) = true := bne_iff_ne.mpr c5
      simp only [Option.some.injEq, Prod.mk.injEq] at H
      obtain ⟨rfl, rfl⟩ := H
      go_enter Tryd.func10, Tryd.ntmps10
      try go_wp2_with (first | ((with_reducible refine gate_dst (N := 1) rfl ?_); refine box_event ?hg (N := 1) ?hd (cs := #[.int .i64 a0_0, .int .i64 a0_1, .int .i64 a0_2, .int .i64 a0_3, .int .i64 a0_4]) (t := 23) ?hr ?_; (case hd => rfl); (case hg => rfl); (case hr => first | (go_simp; done) | (go_simp; rfl)); intro gb115 hg w25 hbox hb; have n0_ := Aside0.mk (below_step (by repeat (first | (with_reducible first | exact HB.out | apply below_alloc | apply pw_below_drewN | apply below_drew1) | exact HB.out)) hb); have n1_ := Aside0.mk (hbox); have n2_ := Aside0.mk ((by rw [hg]; exact (below_size (by repeat (first | (with_reducible first | exact HB.out | apply below_alloc | apply pw_below_drewN | apply below_drew1) | exact HB.out))) : w.heap.size ≤ gb115)); have n3_ := Aside0.mk ((by rw [hg]; exact (below_size (by repeat (first | (with_reducible first | exact HB.out | apply below_alloc | apply pw_below_drewN | apply below_drew1) | exact HB.out))) : w.heap.size ≤ gb115)); clear HB; have HB := n0_; have BK115 := n1_; have GW115 := n2_; have GE115 := n3_; clear n0_ n1_ n2_ n3_; clear hb hbox hg; have hcz26_0 : w25.cell? ⟨gb115, 0, none⟩ = some (.int .i64 a0_0) := (blk_cell BK115.out 0).trans rfl; have hcz26_1 : w25.cell? ⟨gb115, 1, none⟩ = some (.int .i64 a0_1) := (blk_cell BK115.out 1).trans rfl; have hcz26_2 : w25.cell? ⟨gb115, 2, none⟩ = some (.int .i64 a0_2) := (blk_cell BK115.out 2).trans rfl; have hcz26_3 : w25.cell? ⟨gb115, 3, none⟩ = some (.int .i64 a0_3) := (blk_cell BK115.out 3).trans rfl; have hcz26_4 : w25.cell? ⟨gb115, 4, none⟩ = some (.int .i64 a0_4) := (blk_cell BK115.out 4).trans rfl; have hfz26_0 := blk_frozen BK115.out 0; have hfz26_1 := blk_frozen BK115.out 1; have hfz26_2 := blk_frozen BK115.out 2; have hfz26_3 := blk_frozen BK115.out 3; have hfz26_4 := blk_frozen BK115.out 4) | ((with_reducible refine gate_callee (f := 11) rfl ?_); refine goesL_ (some 8) rfl rfl Tryd.func11 (by kernel_rfl) rfl #[.agg #[.int .i64 a0_0, .int .i64 a0_1, .int .i64 a0_2, .int .i64 a0_3, .int .i64 a0_4]] rfl (by (try simp only [List.map_toArray, List.map_cons, List.map_nil]); first | done | rfl | (simp only [List.length_drop, List.length_take]; rfl)) ?_; (with_reducible refine (packet_May.calls a0_0 a0_1 a0_2 a0_3 a0_4 true _ A2.out).mono ?_); rintro e w27 ⟨rfl, hb⟩; refine ⟨_, rfl, ?_⟩; have n0_ := Aside0.mk (blk_below (g := gb115) (o := .cells #[.int .i64 a0_0, .int .i64 a0_1, .int .i64 a0_2, .int .i64 a0_3, .int .i64 a0_4] 23 (0, 0)) (by (with_reducible repeat (first | refine blk_drewN ?_ _ | refine blk_drew ?_ | refine blk_alloc ?_ _)); exact BK115.out) hb); have n1_ := Aside0.mk (below_step (by repeat (first | (with_reducible first | exact HB.out | apply below_alloc | apply pw_below_drewN | apply below_drew1 | refine below_set ?_ GE115.out) | exact HB.out)) hb); clear BK115; clear HB; have BK115 := n0_; have HB := n1_; clear n0_ n1_; (try clear hb); (try clear hb2); (try clear hk); (try clear hi)))
      have n0_ := Aside0.mk (blk_drew BK115.out)
      have n1_ := Aside0.mk (below_drew1 HB.out)
      clear BK115
      clear HB
      have BK115 := n0_
      have HB := n1_
      clear n0_ n1_
      refine start_ (n := 18) (S := fun w' => True) (ds := []) #[false, false, false, false, false, false, false, false, false, false, false, false, false, false, false, false, false, false] (by kernel_rfl) rfl rfl trivial (fun hHeld => ?_); refine with_tabW packet_Put.tab3 packet_Put.bits3 (fun HT_ HW_ => ?_)
      generalize w27.drew = w28 at BK115 HB hHeld ⊢
      refine pure_ (i := 0) (N := some 11) (v := ?_) (a' := ?_) #[true, false, false, false, false, false, false, false, false, false, false, false, false, false, false, false, false, false] rfl rfl (any_of HT_.out (by kernel_rfl)) (fun _ _ _ h => h) (Or.inl ⟨by rfl, ?_⟩) ?_ ?_
      rotate_left
      · intro w'
        go_simp
        with_reducible rfl
      rotate_left
      · simp only [Act.put, List.setIfInBounds_toArray, List.set_cons_zero, List.set_cons_succ, i64_w, i32_w]
        rfl
      refine pure_ (i := 2) (N := some 13) (v := ?_) (a' := ?_) #[true, false, true, false, false, false, false, false, false, false, false, false, false, false, false, false, false, false] rfl rfl (any_of HT_.out (by kernel_rfl)) (fun _ _ _ h => h) (Or.inl ⟨by rfl, ?_⟩) ?_ ?_
      rotate_left
      · intro w'
        go_simp
        with_reducible rfl
      rotate_left
      · simp only [Act.put, List.setIfInBounds_toArray, List.set_cons_zero, List.set_cons_succ, i64_w, i32_w]
        rfl
      refine pure_ (i := 4) (N := some 15) (v := ?_) (a' := ?_) #[true, false, true, false, true, false, false, false, false, false, false, false, false, false, false, false, false, false] rfl rfl (any_of HT_.out (by kernel_rfl)) (fun _ _ _ h => h) (Or.inl ⟨by rfl, ?_⟩) ?_ ?_
      rotate_left
      · intro w'
        go_simp
        with_reducible rfl
      rotate_left
      · simp only [Act.put, List.setIfInBounds_toArray, List.set_cons_zero, List.set_cons_succ, i64_w, i32_w]
        rfl
      refine pure_ (i := 6) (N := some 17) (v := ?_) (a' := ?_) #[true, false, true, false, true, false, true, false, false, false, false, false, false, false, false, false, false, false] rfl rfl (any_of HT_.out (by kernel_rfl)) (fun _ _ _ h => h) (Or.inl ⟨by rfl, ?_⟩) ?_ ?_
      rotate_left
      · intro w'
        go_simp
        with_reducible rfl
      rotate_left
      · simp only [Act.put, List.setIfInBounds_toArray, List.set_cons_zero, List.set_cons_succ, i64_w, i32_w]
        rfl
      refine pure_ (i := 8) (N := some 19) (v := ?_) (a' := ?_) #[true, false, true, false, true, false, true, false, true, false, false, false, false, false, false, false, false, false] rfl rfl (any_of HT_.out (by kernel_rfl)) (fun _ _ _ h => h) (Or.inl ⟨by rfl, ?_⟩) ?_ ?_
      rotate_left
      · intro w'
        go_simp
        with_reducible rfl
      rotate_left
      · simp only [Act.put, List.setIfInBounds_toArray, List.set_cons_zero, List.set_cons_succ, i64_w, i32_w]
        rfl
      refine inv_at [1, 3, 5, 7, 9, 10, 11, 12, 13, 14, 15, 16, 17] (fun a0_ b a w' => ∃ (v118 : Value) (v121 : Value) (v125 : Value) (m12_ : Value) (m13_ : Value) (m14_ : Value) (m16_ : Value), a = putSel a0_ b [(1, 12, .int .i64 a0_0), (3, 14, .int .i64 a0_1), (5, 16, .int .i64 a0_2), (7, 18, .int .i64 a0_3), (9, 20, .int .i64 a0_4), (10, 21, v118), (11, 22, v121), (12, 23, m12_), (13, 10, m13_), (14, 24, m14_), (15, 25, .int .i64 t124), (16, 4, m16_), (17, 5, .int .i64 t124)] ∧ (w'.heap[gb115]? = some (.cells #[.int .i64 a0_0, .int .i64 a0_1, .int .i64 a0_2, .int .i64 a0_3, .int .i64 a0_4] 23 (0, 0))) ∧ (Below w.heap.size w w') ∧ (b 10 = true → Kd.R (Kd.int .i64) 3 w' w.heap.size (fun _ => True) v118 y117) ∧ (b 11 = true → v121 = .slice (some ⟨0, 0, none⟩) 5 5) ∧ (b 12 = true → Kd.R (Kd.int .u8) 5 w' w.heap.size (fun _ => True) v125 t123) ∧ (b 12 = true → (m12_ : Value) = .tuple #[v125, .int .i64 t124]) ∧ (b 13 = true → (m13_ : Value) = .tuple #[v125, .int .i64 t124]) ∧ (b 14 = true → (m14_ : Value) = v125) ∧ (b 16 = true → (m16_ : Value) = v125)) HT_.out HW_.out (by kernel_rfl) (by kernel_rfl) ?_ ?_ ?_
      · exact ⟨.bool false, .bool false, .bool false, .bool false, .bool false, .bool false, .bool false, by simp only [putSel, Bool.false_eq_true, if_false], BK115.out, HB.out, fun h_ => absurd h_ (by decide), fun h_ => absurd h_ (by decide), fun h_ => absurd h_ (by decide), fun h_ => absurd h_ (by decide), fun h_ => absurd h_ (by decide), fun h_ => absurd h_ (by decide), fun h_ => absurd h_ (by decide)⟩
      · skip
        clear BK115 HB
        refine steps_cons ?_ ?_
        · rintro b a w' ⟨v118, v121, v125, m12_, m13_, m14_, m16_, ha, Q_BK115, Q_HB, Q_HO119, Q_HO122, Q_HO126, Q_X12_, Q_X13_, Q_X14_, Q_X16_⟩ hb_ hon hoff
          refine ⟨_, rfl, fun K hK => ?_⟩
          have e11 : a.tmps[11]? = some (.pointer (some ⟨gb115, 0, none⟩)) := by rw [ha]; exact (putSel_off rfl).trans rfl
          replace ha := Aside0.mk ha
          have BK115 := Aside0.mk Q_BK115
          have HB := Aside0.mk Q_HB
          have hc0_ : w'.cell? ⟨gb115, 0, none⟩ = some (.int .i64 a0_0) := (blk_cell BK115.out 0).trans rfl
          have hc1_ : w'.cell? ⟨gb115, 1, none⟩ = some (.int .i64 a0_1) := (blk_cell BK115.out 1).trans rfl
          have hc2_ : w'.cell? ⟨gb115, 2, none⟩ = some (.int .i64 a0_2) := (blk_cell BK115.out 2).trans rfl
          have hc3_ : w'.cell? ⟨gb115, 3, none⟩ = some (.int .i64 a0_3) := (blk_cell BK115.out 3).trans rfl
          have hc4_ : w'.cell? ⟨gb115, 4, none⟩ = some (.int .i64 a0_4) := (blk_cell BK115.out 4).trans rfl
          refine value_ (w1 := w') (v := .int .i64 a0_0) (by rfl) rfl ?_ ?_
          · go_simp
            (try simp only [i64_w])
            try rfl
          refine hK.out _ _ ⟨v118, v121, v125, m12_, m13_, m14_, m16_, (by rw [ha.out]; exact putSel_upk 0 hb_ rfl rfl rfl), Q_BK115, Q_HB, fun h0_ => absurd ((hoff 10 (by kernel_rfl)).symm.trans h0_) (by decide), Q_HO122, fun h0_ => absurd ((hoff 12 (by kernel_rfl)).symm.trans h0_) (by decide), fun h0_ => absurd ((hoff 12 (by kernel_rfl)).symm.trans h0_) (by decide), fun h0_ => absurd ((hoff 13 (by kernel_rfl)).symm.trans h0_) (by decide), fun h0_ => absurd ((hoff 14 (by kernel_rfl)).symm.trans h0_) (by decide), fun h0_ => absurd ((hoff 16 (by kernel_rfl)).symm.trans h0_) (by decide)⟩
        refine steps_cons ?_ ?_
        · rintro b a w' ⟨v118, v121, v125, m12_, m13_, m14_, m16_, ha, Q_BK115, Q_HB, Q_HO119, Q_HO122, Q_HO126, Q_X12_, Q_X13_, Q_X14_, Q_X16_⟩ hb_ hon hoff
          refine ⟨_, rfl, fun K hK => ?_⟩
          have e13 : a.tmps[13]? = some (.pointer (some ⟨gb115, 1, none⟩)) := by rw [ha]; exact (putSel_off rfl).trans rfl
          replace ha := Aside0.mk ha
          have BK115 := Aside0.mk Q_BK115
          have HB := Aside0.mk Q_HB
          have hc0_ : w'.cell? ⟨gb115, 0, none⟩ = some (.int .i64 a0_0) := (blk_cell BK115.out 0).trans rfl
          have hc1_ : w'.cell? ⟨gb115, 1, none⟩ = some (.int .i64 a0_1) := (blk_cell BK115.out 1).trans rfl
          have hc2_ : w'.cell? ⟨gb115, 2, none⟩ = some (.int .i64 a0_2) := (blk_cell BK115.out 2).trans rfl
          have hc3_ : w'.cell? ⟨gb115, 3, none⟩ = some (.int .i64 a0_3) := (blk_cell BK115.out 3).trans rfl
          have hc4_ : w'.cell? ⟨gb115, 4, none⟩ = some (.int .i64 a0_4) := (blk_cell BK115.out 4).trans rfl
          refine value_ (w1 := w') (v := .int .i64 a0_1) (by rfl) rfl ?_ ?_
          · go_simp
            (try simp only [i64_w])
            try rfl
          refine hK.out _ _ ⟨v118, v121, v125, m12_, m13_, m14_, m16_, (by rw [ha.out]; exact putSel_upk 1 hb_ rfl rfl rfl), Q_BK115, Q_HB, fun h0_ => absurd ((hoff 10 (by kernel_rfl)).symm.trans h0_) (by decide), Q_HO122, fun h0_ => absurd ((hoff 12 (by kernel_rfl)).symm.trans h0_) (by decide), fun h0_ => absurd ((hoff 12 (by kernel_rfl)).symm.trans h0_) (by decide), fun h0_ => absurd ((hoff 13 (by kernel_rfl)).symm.trans h0_) (by decide), fun h0_ => absurd ((hoff 14 (by kernel_rfl)).symm.trans h0_) (by decide), fun h0_ => absurd ((hoff 16 (by kernel_rfl)).symm.trans h0_) (by decide)⟩
        refine steps_cons ?_ ?_
        · rintro b a w' ⟨v118, v121, v125, m12_, m13_, m14_, m16_, ha, Q_BK115, Q_HB, Q_HO119, Q_HO122, Q_HO126, Q_X12_, Q_X13_, Q_X14_, Q_X16_⟩ hb_ hon hoff
          refine ⟨_, rfl, fun K hK => ?_⟩
          have e15 : a.tmps[15]? = some (.pointer (some ⟨gb115, 2, none⟩)) := by rw [ha]; exact (putSel_off rfl).trans rfl
          replace ha := Aside0.mk ha
          have BK115 := Aside0.mk Q_BK115
          have HB := Aside0.mk Q_HB
          have hc0_ : w'.cell? ⟨gb115, 0, none⟩ = some (.int .i64 a0_0) := (blk_cell BK115.out 0).trans rfl
          have hc1_ : w'.cell? ⟨gb115, 1, none⟩ = some (.int .i64 a0_1) := (blk_cell BK115.out 1).trans rfl
          have hc2_ : w'.cell? ⟨gb115, 2, none⟩ = some (.int .i64 a0_2) := (blk_cell BK115.out 2).trans rfl
          have hc3_ : w'.cell? ⟨gb115, 3, none⟩ = some (.int .i64 a0_3) := (blk_cell BK115.out 3).trans rfl
          have hc4_ : w'.cell? ⟨gb115, 4, none⟩ = some (.int .i64 a0_4) := (blk_cell BK115.out 4).trans rfl
          refine value_ (w1 := w') (v := .int .i64 a0_2) (by rfl) rfl ?_ ?_
          · go_simp
            (try simp only [i64_w])
            try rfl
          refine hK.out _ _ ⟨v118, v121, v125, m12_, m13_, m14_, m16_, (by rw [ha.out]; exact putSel_upk 2 hb_ rfl rfl rfl), Q_BK115, Q_HB, fun h0_ => absurd ((hoff 10 (by kernel_rfl)).symm.trans h0_) (by decide), Q_HO122, fun h0_ => absurd ((hoff 12 (by kernel_rfl)).symm.trans h0_) (by decide), fun h0_ => absurd ((hoff 12 (by kernel_rfl)).symm.trans h0_) (by decide), fun h0_ => absurd ((hoff 13 (by kernel_rfl)).symm.trans h0_) (by decide), fun h0_ => absurd ((hoff 14 (by kernel_rfl)).symm.trans h0_) (by decide), fun h0_ => absurd ((hoff 16 (by kernel_rfl)).symm.trans h0_) (by decide)⟩
        refine steps_cons ?_ ?_
        · rintro b a w' ⟨v118, v121, v125, m12_, m13_, m14_, m16_, ha, Q_BK115, Q_HB, Q_HO119, Q_HO122, Q_HO126, Q_X12_, Q_X13_, Q_X14_, Q_X16_⟩ hb_ hon hoff
          refine ⟨_, rfl, fun K hK => ?_⟩
          have e17 : a.tmps[17]? = some (.pointer (some ⟨gb115, 3, none⟩)) := by rw [ha]; exact (putSel_off rfl).trans rfl
          replace ha := Aside0.mk ha
          have BK115 := Aside0.mk Q_BK115
          have HB := Aside0.mk Q_HB
          have hc0_ : w'.cell? ⟨gb115, 0, none⟩ = some (.int .i64 a0_0) := (blk_cell BK115.out 0).trans rfl
          have hc1_ : w'.cell? ⟨gb115, 1, none⟩ = some (.int .i64 a0_1) := (blk_cell BK115.out 1).trans rfl
          have hc2_ : w'.cell? ⟨gb115, 2, none⟩ = some (.int .i64 a0_2) := (blk_cell BK115.out 2).trans rfl
          have hc3_ : w'.cell? ⟨gb115, 3, none⟩ = some (.int .i64 a0_3) := (blk_cell BK115.out 3).trans rfl
          have hc4_ : w'.cell? ⟨gb115, 4, none⟩ = some (.int .i64 a0_4) := (blk_cell BK115.out 4).trans rfl
          refine value_ (w1 := w') (v := .int .i64 a0_3) (by rfl) rfl ?_ ?_
          · go_simp
            (try simp only [i64_w])
            try rfl
          refine hK.out _ _ ⟨v118, v121, v125, m12_, m13_, m14_, m16_, (by rw [ha.out]; exact putSel_upk 3 hb_ rfl rfl rfl), Q_BK115, Q_HB, fun h0_ => absurd ((hoff 10 (by kernel_rfl)).symm.trans h0_) (by decide), Q_HO122, fun h0_ => absurd ((hoff 12 (by kernel_rfl)).symm.trans h0_) (by decide), fun h0_ => absurd ((hoff 12 (by kernel_rfl)).symm.trans h0_) (by decide), fun h0_ => absurd ((hoff 13 (by kernel_rfl)).symm.trans h0_) (by decide), fun h0_ => absurd ((hoff 14 (by kernel_rfl)).symm.trans h0_) (by decide), fun h0_ => absurd ((hoff 16 (by kernel_rfl)).symm.trans h0_) (by decide)⟩
        refine steps_cons ?_ ?_
        · rintro b a w' ⟨v118, v121, v125, m12_, m13_, m14_, m16_, ha, Q_BK115, Q_HB, Q_HO119, Q_HO122, Q_HO126, Q_X12_, Q_X13_, Q_X14_, Q_X16_⟩ hb_ hon hoff
          refine ⟨_, rfl, fun K hK => ?_⟩
          have e19 : a.tmps[19]? = some (.pointer (some ⟨gb115, 4, none⟩)) := by rw [ha]; exact (putSel_off rfl).trans rfl
          replace ha := Aside0.mk ha
          have BK115 := Aside0.mk Q_BK115
          have HB := Aside0.mk Q_HB
          have hc0_ : w'.cell? ⟨gb115, 0, none⟩ = some (.int .i64 a0_0) := (blk_cell BK115.out 0).trans rfl
          have hc1_ : w'.cell? ⟨gb115, 1, none⟩ = some (.int .i64 a0_1) := (blk_cell BK115.out 1).trans rfl
          have hc2_ : w'.cell? ⟨gb115, 2, none⟩ = some (.int .i64 a0_2) := (blk_cell BK115.out 2).trans rfl
          have hc3_ : w'.cell? ⟨gb115, 3, none⟩ = some (.int .i64 a0_3) := (blk_cell BK115.out 3).trans rfl
          have hc4_ : w'.cell? ⟨gb115, 4, none⟩ = some (.int .i64 a0_4) := (blk_cell BK115.out 4).trans rfl
          refine value_ (w1 := w') (v := .int .i64 a0_4) (by rfl) rfl ?_ ?_
          · go_simp
            (try simp only [i64_w])
            try rfl
          refine hK.out _ _ ⟨v118, v121, v125, m12_, m13_, m14_, m16_, (by rw [ha.out]; exact putSel_upk 4 hb_ rfl rfl rfl), Q_BK115, Q_HB, fun h0_ => absurd ((hoff 10 (by kernel_rfl)).symm.trans h0_) (by decide), Q_HO122, fun h0_ => absurd ((hoff 12 (by kernel_rfl)).symm.trans h0_) (by decide), fun h0_ => absurd ((hoff 12 (by kernel_rfl)).symm.trans h0_) (by decide), fun h0_ => absurd ((hoff 13 (by kernel_rfl)).symm.trans h0_) (by decide), fun h0_ => absurd ((hoff 14 (by kernel_rfl)).symm.trans h0_) (by decide), fun h0_ => absurd ((hoff 16 (by kernel_rfl)).symm.trans h0_) (by decide)⟩
        refine steps_cons ?_ ?_
        · rintro b a w' ⟨v118, v121, v125, m12_, m13_, m14_, m16_, ha, Q_BK115, Q_HB, Q_HO119, Q_HO122, Q_HO126, Q_X12_, Q_X13_, Q_X14_, Q_X16_⟩ hb_ hon hoff
          refine ⟨_, rfl, fun K hK => ?_⟩
          have e12 : a.tmps[12]? = some (.int .i64 a0_0) := by rw [ha]; exact putSel_on (e := (1, 12, .int .i64 a0_0)) 0 rfl rfl (hon 1 (by kernel_rfl)) rfl
          have e14 : a.tmps[14]? = some (.int .i64 a0_1) := by rw [ha]; exact putSel_on (e := (3, 14, .int .i64 a0_1)) 1 rfl rfl (hon 3 (by kernel_rfl)) rfl
          have e16 : a.tmps[16]? = some (.int .i64 a0_2) := by rw [ha]; exact putSel_on (e := (5, 16, .int .i64 a0_2)) 2 rfl rfl (hon 5 (by kernel_rfl)) rfl
          have e18 : a.tmps[18]? = some (.int .i64 a0_3) := by rw [ha]; exact putSel_on (e := (7, 18, .int .i64 a0_3)) 3 rfl rfl (hon 7 (by kernel_rfl)) rfl
          have e20 : a.tmps[20]? = some (.int .i64 a0_4) := by rw [ha]; exact putSel_on (e := (9, 20, .int .i64 a0_4)) 4 rfl rfl (hon 9 (by kernel_rfl)) rfl
          replace ha := Aside0.mk ha
          have BK115 := Aside0.mk Q_BK115
          have HB := Aside0.mk Q_HB
          refine Kd.R_lit_step (Kd.int .i64) _ 3 ?hg (N := 21) ?hd (xs := ([a0_0, a0_1, a0_2, a0_3, a0_4] : List Int)) (inner := [.int .i64 a0_0, .int .i64 a0_1, .int .i64 a0_2, .int .i64 a0_3, .int .i64 a0_4]) (ok := fun _ => True) (okp := fun _ => True) ?hr ?hp (fun _ hk => hk) trivial (Below.refl _ _) (Nat.le_refl _) (by simp) ?_; (case hd => rfl); (case hg => rfl); (case hr => first | (go_simp; done) | (go_simp; rfl)); (case hp => exact (Reps.one (show Kd.M (Kd.int .i64) _ _ _ a0_0 [.int .i64 a0_0] from rfl) (Reps.one (show Kd.M (Kd.int .i64) _ _ _ a0_1 [.int .i64 a0_1] from rfl) (Reps.one (show Kd.M (Kd.int .i64) _ _ _ a0_2 [.int .i64 a0_2] from rfl) (Reps.one (show Kd.M (Kd.int .i64) _ _ _ a0_3 [.int .i64 a0_3] from rfl) (Reps.one (show Kd.M (Kd.int .i64) _ _ _ a0_4 [.int .i64 a0_4] from rfl) (Reps.none _ _)))))))
          intro v118 w29 ho30 hb hg_ hnew_
          clear hg_ hnew_
          (first | rw [← Ny117.out] at ho30 | (simp only [Int.reduceToNat] at ho30; rw [← Ny117.out] at ho30))
          have n0_ := Aside0.mk (Kd.R_lower ho30 (below_size (by repeat (first | (with_reducible first | exact HB.out | apply below_alloc | apply pw_below_drewN | apply below_drew1 | refine below_set ?_ GE115.out) | exact HB.out))))
          have n1_ := Aside0.mk (blk_below (g := gb115) (o := .cells #[.int .i64 a0_0, .int .i64 a0_1, .int .i64 a0_2, .int .i64 a0_3, .int .i64 a0_4] 23 (0, 0)) (by (with_reducible repeat (first | refine blk_drewN ?_ _ | refine blk_drew ?_ | refine blk_alloc ?_ _)); exact BK115.out) hb)
          have n2_ := Aside0.mk (below_step (by repeat (first | (with_reducible first | exact HB.out | apply below_alloc | apply pw_below_drewN | apply below_drew1 | refine below_set ?_ GE115.out) | exact HB.out)) hb)
          have z_HO122 := Q_HO122
          clear BK115
          clear HB
          have HO119 := n0_
          have BK115 := n1_
          have HB := n2_
          clear n0_ n1_ n2_
          clear hb ho30
          refine hK.out _ _ ⟨v118, v121, v125, m12_, m13_, m14_, m16_, (by rw [ha.out]; exact putSel_upk 5 hb_ rfl rfl rfl), (by (with_reducible repeat (first | refine blk_drewN ?_ _ | refine blk_drew ?_ | refine blk_alloc ?_ _)); exact BK115.out), (by repeat (first | (with_reducible first | exact HB.out | apply below_alloc | apply pw_below_drewN | apply below_drew1 | refine below_set ?_ GE115.out) | exact HB.out)), fun _ => (by (with_reducible repeat (first | apply Kd.R_alloc | apply Kd.R_drewN | apply Kd.R_drew)); exact HO119.out), z_HO122, fun h0_ => absurd ((hoff 12 (by kernel_rfl)).symm.trans h0_) (by decide), fun h0_ => absurd ((hoff 12 (by kernel_rfl)).symm.trans h0_) (by decide), fun h0_ => absurd ((hoff 13 (by kernel_rfl)).symm.trans h0_) (by decide), fun h0_ => absurd ((hoff 14 (by kernel_rfl)).symm.trans h0_) (by decide), fun h0_ => absurd ((hoff 16 (by kernel_rfl)).symm.trans h0_) (by decide)⟩
        refine steps_cons ?_ ?_
        · rintro b a w' ⟨v118, v121, v125, m12_, m13_, m14_, m16_, ha, Q_BK115, Q_HB, Q_HO119, Q_HO122, Q_HO126, Q_X12_, Q_X13_, Q_X14_, Q_X16_⟩ hb_ hon hoff
          refine ⟨_, rfl, fun K hK => ?_⟩
          replace ha := Aside0.mk ha
          have BK115 := Aside0.mk Q_BK115
          have HB := Aside0.mk Q_HB
          refine value_ (w1 := w') (v := .slice (some ⟨0, 0, none⟩) 5 5) (by rfl) rfl ?_ ?_
          · go_simp
            (try simp only [i64_w])
            try rfl
          refine hK.out _ _ ⟨v118, .slice (some ⟨0, 0, none⟩) 5 5, v125, m12_, m13_, m14_, m16_, (by rw [ha.out]; exact putSel_upk 6 hb_ rfl rfl rfl), Q_BK115, Q_HB, Q_HO119, fun _ => rfl, fun h0_ => absurd ((hoff 12 (by kernel_rfl)).symm.trans h0_) (by decide), fun h0_ => absurd ((hoff 12 (by kernel_rfl)).symm.trans h0_) (by decide), fun h0_ => absurd ((hoff 13 (by kernel_rfl)).symm.trans h0_) (by decide), fun h0_ => absurd ((hoff 14 (by kernel_rfl)).symm.trans h0_) (by decide), fun h0_ => absurd ((hoff 16 (by kernel_rfl)).symm.trans h0_) (by decide)⟩
        refine steps_cons ?_ ?_
        · rintro b a w' ⟨v118, v121, v125, m12_, m13_, m14_, m16_, ha, Q_BK115, Q_HB, Q_HO119, Q_HO122, Q_HO126, Q_X12_, Q_X13_, Q_X14_, Q_X16_⟩ hb_ hon hoff
          refine ⟨_, rfl, fun K hK => ?_⟩
          have e21 : a.tmps[21]? = some (v118) := by rw [ha]; exact putSel_on (e := (10, 21, v118)) 5 rfl rfl (hon 10 (by kernel_rfl)) rfl
          have e22 : a.tmps[22]? = some (v121) := by rw [ha]; exact putSel_on (e := (11, 22, v121)) 6 rfl rfl (hon 11 (by kernel_rfl)) rfl
          replace ha := Aside0.mk ha
          have BK115 := Aside0.mk Q_BK115
          have HB := Aside0.mk Q_HB
          have HO119 := Aside0.mk (Q_HO119 (hon 10 (by kernel_rfl)))
          have HO122 := Aside0.mk (Q_HO122 (hon 11 (by kernel_rfl)))
          obtain ⟨Ao34, co34, eo34⟩ := Kd.R_slice HO119.out
          (first | subst eo34 | (injection eo34 with f1_ f2_ f3_; have f4_ := f1_.symm; have f5_ := f3_.symm; clear f1_ f2_ f3_; subst f4_; subst f5_))
          have eo35 := HO122.out
          (try subst eo35)
          refine goes_ Tryd.func16 (by kernel_rfl) rfl #[.slice Ao34 y117.length co34, .slice (some ⟨0, 0, none⟩) 5 5] (by rfl) rfl rfl (by first | (simp only [List.map_toArray, List.map_cons, List.map_nil, Act.eval, Array.getD_eq_getD_getElem?, Option.getD_some, e21, e22]; done) | (simp only [List.map_toArray, List.map_cons, List.map_nil, Act.eval, Array.getD_eq_getD_getElem?, Option.getD_some, e21, e22]; rfl)) ?_
          refine calls_of_args ?sideA ((octets_PutAll.calls k Ao34 co34 y117 (some ⟨0, 0, none⟩) 5 y120 t123 t124 _ ?side1 ?side2 ?side3 ?side4 A4.out).mono ?_)
          (case sideA => (rw [Ny120.out]; rfl))
          (case side1 => repeat (first | exact (Kd.R_reads' HO119.out).2.2 | (with_reducible refine Kd.C_alloc ?_ _) | (with_reducible refine Kd.C_drewN ?_ _) | (with_reducible refine Kd.C_drew ?_)))
          (case side2 => exact (Kd.R_reads' HO119.out).2.1)
          (case side3 => exact (hG.below rfl (by repeat (first | (with_reducible first | exact HB.out | apply below_alloc | apply pw_below_drewN | apply below_drew1 | refine below_set ?_ GE115.out) | exact HB.out))).C Ny120.out)
          (case side4 => (rw [Ny120.out]; decide))
          rintro e w36 ⟨v125, rfl, ho0, hb⟩
          refine ⟨_, rfl, ?_⟩
          have n0_ := Aside0.mk (Kd.R_below (by (with_reducible repeat (first | apply Kd.R_alloc | apply Kd.R_drewN | apply Kd.R_drew)); exact HO119.out) hb)
          have n1_ := HO122
          have n2_ := Aside0.mk (Kd.R_lower ho0 (below_size (by repeat (first | (with_reducible first | exact HB.out | apply below_alloc | apply pw_below_drewN | apply below_drew1 | refine below_set ?_ GE115.out) | exact HB.out))))
          have n3_ := Aside0.mk (blk_below (g := gb115) (o := .cells #[.int .i64 a0_0, .int .i64 a0_1, .int .i64 a0_2, .int .i64 a0_3, .int .i64 a0_4] 23 (0, 0)) (by (with_reducible repeat (first | refine blk_drewN ?_ _ | refine blk_drew ?_ | refine blk_alloc ?_ _)); exact BK115.out) hb)
          have n4_ := Aside0.mk (below_step (by repeat (first | (with_reducible first | exact HB.out | apply below_alloc | apply pw_below_drewN | apply below_drew1 | refine below_set ?_ GE115.out) | exact HB.out)) hb)
          clear HO119
          clear HO122
          clear BK115
          clear HB
          have HO119 := n0_
          have HO122 := n1_
          have HO126 := n2_
          have BK115 := n3_
          have HB := n4_
          clear n0_ n1_ n2_ n3_ n4_
          (try clear hb)
          (try clear hb2)
          (try clear hk)
          (try clear hi)
          (try clear ho0)
          refine hK.out _ _ ⟨.slice Ao34 y117.length co34, .slice (some ⟨0, 0, none⟩) 5 5, v125, (.tuple #[v125, .int .i64 t124]), m13_, m14_, m16_, (by rw [ha.out]; exact putSel_upk 7 hb_ rfl rfl rfl), (by (with_reducible repeat (first | refine blk_drewN ?_ _ | refine blk_drew ?_ | refine blk_alloc ?_ _)); exact BK115.out), (by repeat (first | (with_reducible first | exact HB.out | apply below_alloc | apply pw_below_drewN | apply below_drew1 | refine below_set ?_ GE115.out) | exact HB.out)), fun _ => (by (with_reducible repeat (first | apply Kd.R_alloc | apply Kd.R_drewN | apply Kd.R_drew)); exact HO119.out), fun _ => HO122.out, fun _ => (by (with_reducible repeat (first | apply Kd.R_alloc | apply Kd.R_drewN | apply Kd.R_drew)); exact HO126.out), fun _ => rfl, fun h0_ => absurd ((hoff 13 (by kernel_rfl)).symm.trans h0_) (by decide), fun h0_ => absurd ((hoff 14 (by kernel_rfl)).symm.trans h0_) (by decide), fun h0_ => absurd ((hoff 16 (by kernel_rfl)).symm.trans h0_) (by decide)⟩
        refine steps_cons ?_ ?_
        · rintro b a w' ⟨v118, v121, v125, m12_, m13_, m14_, m16_, ha, Q_BK115, Q_HB, Q_HO119, Q_HO122, Q_HO126, Q_X12_, Q_X13_, Q_X14_, Q_X16_⟩ hb_ hon hoff
          refine ⟨_, rfl, fun K hK => ?_⟩
          have e23 : a.tmps[23]? = some (m12_) := by rw [ha]; exact putSel_on (e := (12, 23, m12_)) 7 rfl rfl (hon 12 (by kernel_rfl)) rfl
          rw [Q_X12_ (hon 12 (by kernel_rfl))] at e23
          replace ha := Aside0.mk ha
          have BK115 := Aside0.mk Q_BK115
          have HB := Aside0.mk Q_HB
          have HO119 := Aside0.mk (Q_HO119 (hon 10 (by kernel_rfl)))
          have HO122 := Aside0.mk (Q_HO122 (hon 11 (by kernel_rfl)))
          have HO126 := Aside0.mk (Q_HO126 (hon 12 (by kernel_rfl)))
          refine value_ (w1 := w') (v := .tuple #[v125, .int .i64 t124]) (by rfl) rfl ?_ ?_
          · go_simp
            (try simp only [i64_w])
            try rfl
          refine hK.out _ _ ⟨v118, v121, v125, m12_, (.tuple #[v125, .int .i64 t124]), m14_, m16_, (by rw [ha.out]; exact putSel_upk 8 hb_ rfl rfl rfl), Q_BK115, Q_HB, Q_HO119, Q_HO122, Q_HO126, Q_X12_, fun _ => rfl, fun h0_ => absurd ((hoff 14 (by kernel_rfl)).symm.trans h0_) (by decide), fun h0_ => absurd ((hoff 16 (by kernel_rfl)).symm.trans h0_) (by decide)⟩
        refine steps_cons ?_ ?_
        · rintro b a w' ⟨v118, v121, v125, m12_, m13_, m14_, m16_, ha, Q_BK115, Q_HB, Q_HO119, Q_HO122, Q_HO126, Q_X12_, Q_X13_, Q_X14_, Q_X16_⟩ hb_ hon hoff
          refine ⟨_, rfl, fun K hK => ?_⟩
          have e10 : a.tmps[10]? = some (m13_) := by rw [ha]; exact putSel_on (e := (13, 10, m13_)) 8 rfl rfl (hon 13 (by kernel_rfl)) rfl
          rw [Q_X13_ (hon 13 (by kernel_rfl))] at e10
          replace ha := Aside0.mk ha
          have BK115 := Aside0.mk Q_BK115
          have HB := Aside0.mk Q_HB
          have HO119 := Aside0.mk (Q_HO119 (hon 10 (by kernel_rfl)))
          have HO122 := Aside0.mk (Q_HO122 (hon 11 (by kernel_rfl)))
          have HO126 := Aside0.mk (Q_HO126 (hon 12 (by kernel_rfl)))
          obtain ⟨Ao14_0, co14_0, eo_⟩ := Kd.R_slice HO126.out
          subst eo_
          refine value_ (w1 := w') (v := .slice Ao14_0 t123.length co14_0) (by rfl) rfl ?_ ?_
          · go_simp
            (try simp only [i64_w])
            try rfl
          refine hK.out _ _ ⟨v118, v121, .slice Ao14_0 t123.length co14_0, m12_, m13_, (.slice Ao14_0 t123.length co14_0), m16_, (by rw [ha.out]; exact putSel_upk 9 hb_ rfl rfl rfl), Q_BK115, Q_HB, Q_HO119, Q_HO122, Q_HO126, Q_X12_, Q_X13_, fun _ => rfl, fun h0_ => absurd ((hoff 16 (by kernel_rfl)).symm.trans h0_) (by decide)⟩
        refine steps_cons ?_ ?_
        · rintro b a w' ⟨v118, v121, v125, m12_, m13_, m14_, m16_, ha, Q_BK115, Q_HB, Q_HO119, Q_HO122, Q_HO126, Q_X12_, Q_X13_, Q_X14_, Q_X16_⟩ hb_ hon hoff
          refine ⟨_, rfl, fun K hK => ?_⟩
          have e10 : a.tmps[10]? = some (m13_) := by rw [ha]; exact putSel_on (e := (13, 10, m13_)) 8 rfl rfl (hon 13 (by kernel_rfl)) rfl
          rw [Q_X13_ (hon 13 (by kernel_rfl))] at e10
          replace ha := Aside0.mk ha
          have BK115 := Aside0.mk Q_BK115
          have HB := Aside0.mk Q_HB
          have HO119 := Aside0.mk (Q_HO119 (hon 10 (by kernel_rfl)))
          have HO122 := Aside0.mk (Q_HO122 (hon 11 (by kernel_rfl)))
          have HO126 := Aside0.mk (Q_HO126 (hon 12 (by kernel_rfl)))
          obtain ⟨Ao15_0, co15_0, eo_⟩ := Kd.R_slice HO126.out
          subst eo_
          refine value_ (w1 := w') (v := .int .i64 t124) (by rfl) rfl ?_ ?_
          · go_simp
            (try simp only [i64_w])
            try rfl
          refine hK.out _ _ ⟨v118, v121, .slice Ao15_0 t123.length co15_0, m12_, m13_, m14_, m16_, (by rw [ha.out]; exact putSel_upk 10 hb_ rfl rfl rfl), Q_BK115, Q_HB, Q_HO119, Q_HO122, Q_HO126, Q_X12_, Q_X13_, Q_X14_, Q_X16_⟩
        refine steps_cons ?_ ?_
        · rintro b a w' ⟨v118, v121, v125, m12_, m13_, m14_, m16_, ha, Q_BK115, Q_HB, Q_HO119, Q_HO122, Q_HO126, Q_X12_, Q_X13_, Q_X14_, Q_X16_⟩ hb_ hon hoff
          refine ⟨_, rfl, fun K hK => ?_⟩
          have e24 : a.tmps[24]? = some (m14_) := by rw [ha]; exact putSel_on (e := (14, 24, m14_)) 9 rfl rfl (hon 14 (by kernel_rfl)) rfl
          rw [Q_X14_ (hon 14 (by kernel_rfl))] at e24
          replace ha := Aside0.mk ha
          have BK115 := Aside0.mk Q_BK115
          have HB := Aside0.mk Q_HB
          have HO119 := Aside0.mk (Q_HO119 (hon 10 (by kernel_rfl)))
          have HO122 := Aside0.mk (Q_HO122 (hon 11 (by kernel_rfl)))
          have HO126 := Aside0.mk (Q_HO126 (hon 12 (by kernel_rfl)))
          refine value_ (w1 := w') (v := v125) (by rfl) rfl ?_ ?_
          · go_simp
            (try simp only [i64_w])
            try rfl
          refine hK.out _ _ ⟨v118, v121, v125, m12_, m13_, m14_, (v125), (by rw [ha.out]; exact putSel_upk 11 hb_ rfl rfl rfl), Q_BK115, Q_HB, Q_HO119, Q_HO122, Q_HO126, Q_X12_, Q_X13_, Q_X14_, fun _ => rfl⟩
        refine steps_cons ?_ ?_
        · rintro b a w' ⟨v118, v121, v125, m12_, m13_, m14_, m16_, ha, Q_BK115, Q_HB, Q_HO119, Q_HO122, Q_HO126, Q_X12_, Q_X13_, Q_X14_, Q_X16_⟩ hb_ hon hoff
          refine ⟨_, rfl, fun K hK => ?_⟩
          have e25 : a.tmps[25]? = some (.int .i64 t124) := by rw [ha]; exact putSel_on (e := (15, 25, .int .i64 t124)) 10 rfl rfl (hon 15 (by kernel_rfl)) rfl
          replace ha := Aside0.mk ha
          have BK115 := Aside0.mk Q_BK115
          have HB := Aside0.mk Q_HB
          have HO119 := Aside0.mk (Q_HO119 (hon 10 (by kernel_rfl)))
          have HO122 := Aside0.mk (Q_HO122 (hon 11 (by kernel_rfl)))
          have HO126 := Aside0.mk (Q_HO126 (hon 12 (by kernel_rfl)))
          refine value_ (w1 := w') (v := .int .i64 t124) (by rfl) rfl ?_ ?_
          · go_simp
            (try simp only [i64_w])
            try rfl
          refine hK.out _ _ ⟨v118, v121, v125, m12_, m13_, m14_, m16_, (by rw [ha.out]; exact putSel_upk 12 hb_ rfl rfl rfl), Q_BK115, Q_HB, Q_HO119, Q_HO122, Q_HO126, Q_X12_, Q_X13_, Q_X14_, Q_X16_⟩
        exact steps_nil
      rintro b a w36 hall ⟨v118, v121, v125, m12_, m13_, m14_, m16_, ha, Q_BK115, Q_HB, Q_HO119, Q_HO122, Q_HO126, Q_X12_, Q_X13_, Q_X14_, Q_X16_⟩
      clear BK115 HB
      have hb1_ := hall 1 (by kernel_rfl)
      have hb3_ := hall 3 (by kernel_rfl)
      have hb5_ := hall 5 (by kernel_rfl)
      have hb7_ := hall 7 (by kernel_rfl)
      have hb9_ := hall 9 (by kernel_rfl)
      have hb10_ := hall 10 (by kernel_rfl)
      have hb11_ := hall 11 (by kernel_rfl)
      have hb12_ := hall 12 (by kernel_rfl)
      have hb13_ := hall 13 (by kernel_rfl)
      have hb14_ := hall 14 (by kernel_rfl)
      have hb15_ := hall 15 (by kernel_rfl)
      have hb16_ := hall 16 (by kernel_rfl)
      have hb17_ := hall 17 (by kernel_rfl)
      subst ha
      obtain rfl := Q_X12_ hb12_
      obtain rfl := Q_X13_ hb13_
      obtain rfl := Q_X14_ hb14_
      obtain rfl := Q_X16_ hb16_
      simp only [putSel, hb1_, hb3_, hb5_, hb7_, hb9_, hb10_, hb11_, hb12_, hb13_, hb14_, hb15_, hb16_, hb17_, if_true, Act.put, List.setIfInBounds_toArray, List.set_cons_zero, List.set_cons_succ]
      have BK115 := Aside0.mk Q_BK115
      clear Q_BK115
      have HB := Aside0.mk Q_HB
      clear Q_HB
      have HO119 := Aside0.mk (Q_HO119 hb10_)
      clear Q_HO119
      have HO122 := Aside0.mk (Q_HO122 hb11_)
      clear Q_HO122
      have HO126 := Aside0.mk (Q_HO126 hb12_)
      clear Q_HO126
      clear hall hb1_ hb3_ hb5_ hb7_ hb9_ hb10_ hb11_ hb12_ hb13_ hb14_ hb15_ hb16_ hb17_
      try go_wp2
      go_ret2
      exact ⟨_, by first | rfl | (simp [errW_none, errW_some] <;> rfl) | (simp [*, errW_none, errW_some] <;> rfl), by first | exact Kd.R_nil _ _ _ _ _ | exact Kd.N_nil _ _ _ _ _ | exact Kd.V_nil _ _ _ _ _ | exact Kd.Q_nil _ _ _ _ _ | exact Kd.S_nil _ _ _ _ _, by repeat (first | (with_reducible first | exact HB.out | apply below_alloc | apply pw_below_drewN | apply below_drew1 | refine below_set ?_ GE115.out) | exact HB.out)⟩
  · replace c3 := Bool.eq_false_iff.mpr c3
    subst c3
    have H1 : (some (([] : List Int), 1)) = some (r1, r2) := by rw [if_neg (show ¬ (false = true) by decide)] at H; exact H
    clear H
    have H := H1
    clear H1
    simp only [Option.some.injEq, Prod.mk.injEq] at H
    obtain ⟨rfl, rfl⟩ := H
    go_enter Tryd.func10, Tryd.ntmps10
    go_wp2_with (first | ((with_reducible refine gate_dst (N := 1) rfl ?_); refine box_event ?hg (N := 1) ?hd (cs := #[.int .i64 a0_0, .int .i64 a0_1, .int .i64 a0_2, .int .i64 a0_3, .int .i64 a0_4]) (t := 23) ?hr ?_; (case hd => rfl); (case hg => rfl); (case hr => first | (go_simp; done) | (go_simp; rfl)); intro gb115 hg w37 hbox hb; have n0_ := Aside0.mk (below_step (by repeat (first | (with_reducible first | exact HB.out | apply below_alloc | apply pw_below_drewN | apply below_drew1) | exact HB.out)) hb); have n1_ := Aside0.mk (hbox); have n2_ := Aside0.mk ((by rw [hg]; exact (below_size (by repeat (first | (with_reducible first | exact HB.out | apply below_alloc | apply pw_below_drewN | apply below_drew1) | exact HB.out))) : w.heap.size ≤ gb115)); have n3_ := Aside0.mk ((by rw [hg]; exact (below_size (by repeat (first | (with_reducible first | exact HB.out | apply below_alloc | apply pw_below_drewN | apply below_drew1) | exact HB.out))) : w.heap.size ≤ gb115)); clear HB; have HB := n0_; have BK115 := n1_; have GW115 := n2_; have GE115 := n3_; clear n0_ n1_ n2_ n3_; clear hb hbox hg; have hcz38_0 : w37.cell? ⟨gb115, 0, none⟩ = some (.int .i64 a0_0) := (blk_cell BK115.out 0).trans rfl; have hcz38_1 : w37.cell? ⟨gb115, 1, none⟩ = some (.int .i64 a0_1) := (blk_cell BK115.out 1).trans rfl; have hcz38_2 : w37.cell? ⟨gb115, 2, none⟩ = some (.int .i64 a0_2) := (blk_cell BK115.out 2).trans rfl; have hcz38_3 : w37.cell? ⟨gb115, 3, none⟩ = some (.int .i64 a0_3) := (blk_cell BK115.out 3).trans rfl; have hcz38_4 : w37.cell? ⟨gb115, 4, none⟩ = some (.int .i64 a0_4) := (blk_cell BK115.out 4).trans rfl; have hfz38_0 := blk_frozen BK115.out 0; have hfz38_1 := blk_frozen BK115.out 1; have hfz38_2 := blk_frozen BK115.out 2; have hfz38_3 := blk_frozen BK115.out 3; have hfz38_4 := blk_frozen BK115.out 4) | ((with_reducible refine gate_callee (f := 11) rfl ?_); refine goesL_ (some 8) rfl rfl Tryd.func11 (by kernel_rfl) rfl #[.agg #[.int .i64 a0_0, .int .i64 a0_1, .int .i64 a0_2, .int .i64 a0_3, .int .i64 a0_4]] rfl (by (try simp only [List.map_toArray, List.map_cons, List.map_nil]); first | done | rfl | (simp only [List.length_drop, List.length_take]; rfl)) ?_; (with_reducible refine (packet_May.calls a0_0 a0_1 a0_2 a0_3 a0_4 false _ A2.out).mono ?_); rintro e w39 ⟨rfl, hb⟩; refine ⟨_, rfl, ?_⟩; have n0_ := Aside0.mk (blk_below (g := gb115) (o := .cells #[.int .i64 a0_0, .int .i64 a0_1, .int .i64 a0_2, .int .i64 a0_3, .int .i64 a0_4] 23 (0, 0)) (by (with_reducible repeat (first | refine blk_drewN ?_ _ | refine blk_drew ?_ | refine blk_alloc ?_ _)); exact BK115.out) hb); have n1_ := Aside0.mk (below_step (by repeat (first | (with_reducible first | exact HB.out | apply below_alloc | apply pw_below_drewN | apply below_drew1 | refine below_set ?_ GE115.out) | exact HB.out)) hb); clear BK115; clear HB; have BK115 := n0_; have HB := n1_; clear n0_ n1_; (try clear hb); (try clear hb2); (try clear hk); (try clear hi)))
    go_ret2
    exact ⟨_, by first | rfl | (simp [errW_none, errW_some] <;> rfl) | (simp [*, errW_none, errW_some] <;> rfl), by first | exact Kd.R_nil _ _ _ _ _ | exact Kd.N_nil _ _ _ _ _ | exact Kd.V_nil _ _ _ _ _ | exact Kd.Q_nil _ _ _ _ _ | exact Kd.S_nil _ _ _ _ _, by repeat (first | (with_reducible first | exact HB.out | apply below_alloc | apply pw_below_drewN | apply below_drew1 | refine below_set ?_ GE115.out) | exact HB.out)⟩

end Go.Proofs.YtkidokbeabmpmaaDoor.All
