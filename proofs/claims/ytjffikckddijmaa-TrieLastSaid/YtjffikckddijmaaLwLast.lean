/-
  Chapter 7: the law TrieLast, walked.
-/
import Derived.Test.YtjffikckddijmaaTriJ
namespace Go.Proofs.Ytjffikckddijmaa
open Go.RowKit Go.Proofs.YtjffikckddijmaaW.PrintWords Go.Proofs.YtjffikckddijmaaW.PrintLast Go.Proofs.YtjffikckddijmaaW.PrintMore
open All All.BM
attribute [local go_sem] max2_int min2_int max_two min_two max_three min_three max_four min_four
set_option linter.unusedVariables false
set_option linter.unusedSimpArgs false
attribute [local go_sem high] eqA31 eqA33
set_option maxHeartbeats 4000000 in
set_option maxRecDepth 100000 in
theorem trieLast_calls (A0 : Option Addr) (c0 : Nat) (l0 : List S33) (x0 x1 x2 : Int) (w : World) (hr0 : Kd.C k33 w A0 l0.length l0) (hc0 : l0.length ≤ c0) :
    Calls Try.prog 7 #[.slice A0 l0.length c0, .agg #[.int .i64 x0, .int .i64 x1, .int .i64 x2]] w fun e w' => e = .returned (.bool true) ∧ Below w.heap.size w w' := by
  have HR := Aside0.mk hr0
  have HC := Aside0.mk hc0
  clear hr0 hc0
  by_cases h60 : (l0.length : Int) > 60
  · have b60 : decide ((60 : Int) < (l0.length : Int)) = true := decide_eq_true h60
    go_enter Try.func7, Try.ntmps7
    go_wp2_with (first
      | (go_at_call 10; refine (awake_calls _).mono ?_; rintro e w1 ⟨rfl, hb1⟩))
    go_ret
    exact ⟨rfl, below_step ((Below.refl _ _).alloc (Nat.le_refl _) _) hb1⟩
  · have b60 : decide ((60 : Int) < (l0.length : Int)) = false := decide_eq_false h60
    have hm : (l0.length : Int) ≤ 60 := by omega
    by_cases hp : isPre x0 x1
    · have HM := Aside0.mk hm
      have HP := Aside0.mk hp
      have hmay : bits_May.f x0 x1 = some true := by rw [f_May, decide_eq_true hp]
      clear h60 hm hp
      go_enter Try.func7, Try.ntmps7
      go_wp2_with (first
        | (go_at_call 10; refine (awake_calls _).mono ?_; rintro e w1 ⟨rfl, hb1⟩; have e0 := (hb1.block w.heap.size (by simp)).trans (heap_alloc_new w _); have B1 := below_step ((Below.refl _ _).alloc (Nat.le_refl _) _) hb1; have b0 : w1.cell? ⟨w.heap.size, 0, none⟩ = some (.int .i64 x0) := blk_c e0 0; have b1 : w1.cell? ⟨w.heap.size, 1, none⟩ = some (.int .i64 x1) := blk_c e0 1; have b2 : w1.cell? ⟨w.heap.size, 2, none⟩ = some (.int .i64 x2) := blk_c e0 2; have hz := World.block_lt_of_cell? w1 _ b0; clear hb1)
        | (go_at_call 18; refine (bits_May.calls _ _ _ _ hmay).mono ?_; rintro e w2 ⟨rfl, hb2⟩; have E2 := (hb2.block _ (Array.getElem?_eq_some_iff.1 e0).1).trans e0; have B2 := below_step B1 hb2; clear e0 b0 b1 b2 hz hb2 B1 hmay)
        | (go_at_call 11; refine (new_st B2 1000).mono ?_; rintro e w3 ⟨rfl, hs, hb3⟩; have E3 := (hb3.block _ (Array.getElem?_eq_some_iff.1 E2).1).trans E2; clear hb3 B2 E2))
      replace hs : Sta w w3 w2.heap.size [] 1000 := hs
      generalize w2.heap.size = g at hs ⊢
      go_loopg [7] l0.length (fun k v7 wr => ∃ j : Int, v7 = .int .i64 j ∧ Aside0 (0 ≤ j ∧ j ≤ (l0.length : Int) ∧ (k : Int) + j = (l0.length : Int)) ∧ Aside0 (Sta w wr g (putAll 1000 (l0.take j.toNat)) 1000 ∧ wr.heap[w.heap.size]? = some (.cells #[.int .i64 x0, .int .i64 x1, .int .i64 x2] 33 (0, 0))))
      case atStart => exact ⟨0, rfl, ⟨by omega, by omega, by omega⟩, ⟨hs, E3⟩⟩
      case round =>
        clear hs E3
        obtain ⟨j, rfl, ⟨hj0, hj1, hj2⟩, ⟨hs, E⟩⟩ := hrel
        by_cases hj : j < (l0.length : Int)
        · have bj : decide (j < (l0.length : Int)) = true := decide_eq_true hj
          have bj0 : decide (0 ≤ j) = true := decide_eq_true hj0
          obtain ⟨ad0, rfl, r0, r1, r2⟩ := at_T33 HR.out j hj0 hj
          have q0 := pw_cell_below hs.b r0
          have q1 := pw_cell_below hs.b r1
          have q2 := pw_cell_below hs.b r2
          have hput := Aside0.mk (putAll_calls j hj0 hj (hs.drewN 1))
          have hm1 := IntWalk.i64_in (j + 1) (by have := HM.out; omega)
          have HJ := Aside0.mk (And.intro hj0 (And.intro hj hj2))
          have HE := Aside0.mk E
          have hj0' := eq_true hj0
          have hj' := eq_true hj
          clear hs E hj0 hj1 hj2 hj
          go_wp2
          go_region_held3 (fun w' => w'.cell? (ad0.add (j.toNat * 3)) = some (.int .i64 (rd_T33 l0 j).f0.f0) ∧ w'.cell? ⟨(ad0.add (j.toNat * 3)).block, (ad0.add (j.toNat * 3)).off + 1, none⟩ = some (.int .i64 (rd_T33 l0 j).f0.f1) ∧ w'.cell? ⟨(ad0.add (j.toNat * 3)).block, (ad0.add (j.toNat * 3)).off + 2, none⟩ = some (.int .i64 (rd_T33 l0 j).f1))
            (first | go_keep | exact ⟨pw_cell_below hs5.b (by assumption), pw_cell_below hs5.b (by assumption), pw_cell_below hs5.b (by assumption)⟩)
            (first | (go_at_call 14; refine hput.out.mono ?_; rintro e w5 ⟨⟨c5, rfl⟩, hs5, hk5⟩))
          go_wp2
          obtain ⟨h0, h1, h2⟩ := HJ.out
          go_roundg (l0.length - j.toNat - 1)
          case measure => omega
          case rel => exact ⟨j + 1, rfl, ⟨by omega, by omega, by omega⟩, ⟨hs5, hk5.cell HE.out⟩⟩
        · have bj : decide (j < (l0.length : Int)) = false := decide_eq_false hj
          have ej : l0.take j.toNat = l0 := List.take_of_length_le (by omega)
          rw [ej] at hs
          obtain ⟨hL1, hL2⟩ := putAll_facts 1000 l0
          generalize putAll 1000 l0 = L at hs hL1 hL2
          have hm' := HM.out
          have hn := insL_length L (kOf x0 x1) x2
          have p1 := put_st hs x0 x1 x2
          have hsM := srt_insL hL1 (kOf x0 x1) x2
          have p2 := putL_ok hsM (by omega) HP.out x2
          rw [insL_idem hL1] at p2
          rw [putL_ok hL1 (by omega) HP.out x2] at p1
          have hlM : (insL L (kOf x0 x1) x2).length ≤ 61 := by omega
          have hmem : (kOf x0 x1, x2) ∈ insL L (kOf x0 x1) x2 := (mem_insL hL1 _ _ _ _).2 (.inl ⟨rfl, rfl⟩)
          generalize insL L (kOf x0 x1) x2 = M at p1 p2 hlM hmem hsM
          have HMM := Aside0.mk (And.intro p2 (And.intro hlM hmem))
          have P1 := Aside0.mk p1
          have HE := Aside0.mk E
          have b0 : wr.cell? ⟨w.heap.size, 0, none⟩ = some (.int .i64 x0) := blk_c E 0
          have b1 : wr.cell? ⟨w.heap.size, 1, none⟩ = some (.int .i64 x1) := blk_c E 1
          have b2 : wr.cell? ⟨w.heap.size, 2, none⟩ = some (.int .i64 x2) := blk_c E 2
          clear hs E hj0 hj1 hj2 hj ej hL1 hL2 hm' hn p1 p2 hlM hmem hsM
          go_wp2_with (first
            | (go_at_call 14; refine P1.out.mono ?_; rintro e w6 ⟨rfl, hs6, hk6⟩; have E6 := Aside0.mk (hk6.cell HE.out); clear b0 b1 b2)
            | (go_at_call 12; refine (walk_st hs6).mono ?_; rintro e w7 ⟨v7, rfl, hr7, hs7, hb7⟩; obtain ⟨A1, c1, rfl, hc1, hK⟩ := row_C hr7 (by have := HMM.out.2.1; omega); have E7 := Aside0.mk ((Kept.of_below hb7).cell E6.out); have HS7 := Aside0.mk hs7; have HR7 := Aside0.mk hr7; have HK := Aside0.mk hK; have HC1 := Aside0.mk hc1; clear hs6 hr7 hs7 hb7 hK hc1))
          go_loopg [8, 10] (ents3 M).length (fun k v8 v10 wx => ∃ i : Int, v8 = .bool (seen (is3 x0 x1 x2) (ents3 M) i) ∧ v10 = .int .i64 i ∧ Aside0 (0 ≤ i ∧ i ≤ ((ents3 M).length : Int) ∧ (k : Int) + i = ((ents3 M).length : Int)) ∧ Aside0 (Drawn0 w7 wx))
          case atStart => exact ⟨0, by rw [seen_zero], rfl, ⟨by omega, by omega, by omega⟩, ⟨Drawn0.refl _⟩⟩
          case round =>
            obtain ⟨i, rfl, rfl, ⟨hi0, hi1, hi2⟩, ⟨⟨nn, rfl⟩⟩⟩ := hrel
            by_cases hi : i < ((ents3 M).length : Int)
            · have bi : decide (i < ((ents3 M).length : Int)) = true := decide_eq_true hi
              have bi0 : decide (0 ≤ i) = true := decide_eq_true hi0
              obtain ⟨ad1, rfl, r0, r1, r2⟩ := at_T33 HK.out i hi0 hi
              have b0 : w7.cell? ⟨w.heap.size, 0, none⟩ = some (.int .i64 x0) := blk_c E7.out 0
              have b1 : w7.cell? ⟨w.heap.size, 1, none⟩ = some (.int .i64 x1) := blk_c E7.out 1
              have b2 : w7.cell? ⟨w.heap.size, 2, none⟩ = some (.int .i64 x2) := blk_c E7.out 2
              have hst := seen_step (is3 x0 x1 x2) (ents3 M) i hi0 hi
              have hm1 := IntWalk.i64_in (i + 1) (by have := HMM.out.2.1; have := ents3_length M; omega)
              have HJ := Aside0.mk (And.intro hi0 (And.intro hi hi2))
              have HST := Aside0.mk hst
              have hi0' := eq_true hi0
              have hi' := eq_true hi
              clear hi0 hi1 hi2 hi hst
              cases hin : seen (is3 x0 x1 x2) (ents3 M) i
              · have HIN := Aside0.mk hin
                clear hin
                go_wp2
                repeat (go_quiet (fail); try go_wp2)
                obtain ⟨h0, h1, h2⟩ := HJ.out
                go_roundg ((ents3 M).length - i.toNat - 1)
                case measure => omega
                case rel => exact ⟨i + 1, by rw [HST.out, HIN.out]; first | rfl | simp [is3], rfl, ⟨by omega, by omega, by omega⟩, ⟨⟨_, rfl⟩⟩⟩
              · have HIN := Aside0.mk hin
                clear hin
                go_wp2
                repeat (go_quiet (fail); try go_wp2)
                obtain ⟨h0, h1, h2⟩ := HJ.out
                go_roundg ((ents3 M).length - i.toNat - 1)
                case measure => omega
                case rel => exact ⟨i + 1, by rw [HST.out, HIN.out]; rfl, rfl, ⟨by omega, by omega, by omega⟩, ⟨⟨_, rfl⟩⟩⟩
            · have bi : decide (i < ((ents3 M).length : Int)) = false := decide_eq_false hi
              have hin : seen (is3 x0 x1 x2) (ents3 M) i = true := by
                rw [seen_all _ _ _ (by omega)]
                exact seen_mem HMM.out.2.2 (kOf_spec HP.out).2.1 (kOf_spec HP.out).2.2
              rw [hin]
              clear hi0 hi1 hi2 hi hin
              have b0 : w7.cell? ⟨w.heap.size, 0, none⟩ = some (.int .i64 x0) := blk_c E7.out 0
              have b1 : w7.cell? ⟨w.heap.size, 1, none⟩ = some (.int .i64 x1) := blk_c E7.out 1
              have b2 : w7.cell? ⟨w.heap.size, 2, none⟩ = some (.int .i64 x2) := blk_c E7.out 2
              have P2 := Aside0.mk (fun n => put_st (HS7.out.drewN n) x0 x1 x2)
              rw [HMM.out.1] at P2
              go_wp2_with (first
                | (go_at_call 13; refine (nodes_st (HS7.out.drewN _)).mono ?_; rintro e w8 ⟨rfl, rfl⟩)
                | (go_at_call 14; refine (P2.out _).mono ?_; rintro e w9 ⟨rfl, hs9, hk9⟩; clear b0 b1 b2)
                | (go_at_call 12; refine (walk_st hs9).mono ?_; rintro e w10 ⟨v10, rfl, hr10, hs10, hb10⟩; obtain ⟨A2, c2, rfl, hc2, hK2⟩ := row_C hr10 (by have := HMM.out.2.1; omega); have hK1 := row_K (((hk9.trans (Kept.of_below hb10))).row HR7.out) (by have := HMM.out.2.1; omega); have HS10 := Aside0.mk hs10; clear hs9 hr10 hs10 hb10)
                | (go_at_call 15; refine (same_eq hK2 hc2 hK1 HC1.out (by have := HMM.out.2.1; have := ents3_length M; omega)).mono ?_; rintro e w11 ⟨rfl, ⟨n11, rfl⟩⟩; clear hK2 hK1)
                | (go_at_call 13; refine (nodes_st (HS10.out.drewN _)).mono ?_; rintro e w8 ⟨rfl, rfl⟩))
              go_ret
              exact ⟨by first | rfl | simp, (HS10.out.drewN _).b⟩
    · have hmay : bits_May.f x0 x1 = some false := by rw [f_May, decide_eq_false hp]
      clear h60 hm hp
      go_enter Try.func7, Try.ntmps7
      go_wp2_with (first
        | (go_at_call 10; refine (awake_calls _).mono ?_; rintro e w1 ⟨rfl, hb1⟩; have e0 := (hb1.block w.heap.size (by simp)).trans (heap_alloc_new w _); have B1 := below_step ((Below.refl _ _).alloc (Nat.le_refl _) _) hb1; have b0 : w1.cell? ⟨w.heap.size, 0, none⟩ = some (.int .i64 x0) := blk_c e0 0; have b1 : w1.cell? ⟨w.heap.size, 1, none⟩ = some (.int .i64 x1) := blk_c e0 1; have b2 : w1.cell? ⟨w.heap.size, 2, none⟩ = some (.int .i64 x2) := blk_c e0 2; have hz := World.block_lt_of_cell? w1 _ b0; clear hb1)
        | (go_at_call 18; refine (bits_May.calls _ _ _ _ hmay).mono ?_; rintro e w2 ⟨rfl, hb2⟩; have B2 := below_step B1 hb2; clear e0 b0 b1 b2 hz hb2 B1 hmay))
      go_ret
      exact ⟨rfl, B2⟩
end Go.Proofs.Ytjffikckddijmaa
