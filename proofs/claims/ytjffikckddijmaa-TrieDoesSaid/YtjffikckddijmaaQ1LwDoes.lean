/-
  Chapter 7: the law TrieDoes, walked. (Printed by genDo.py.)
-/
import Derived.Test.YtjffikckddijmaaQ1TgP
import Derived.Test.YtjffikckddijmaaQ1TriOp
namespace Go.Proofs.Ytjffikckddijmaa
open Go.RowKit Go.Proofs.YtjffikckddijmaaW.PrintWords Go.Proofs.YtjffikckddijmaaW.PrintLast Go.Proofs.YtjffikckddijmaaW.PrintMore
open All All.BM
attribute [local go_sem] max2_int min2_int max_two min_two max_three min_three max_four min_four
set_option linter.unusedVariables false
set_option linter.unusedSimpArgs false
attribute [local go_sem high] eqA31 eqA33
theorem cutL_length (L : Es) (a n : Int) : (cutL L a n).2.length ≤ L.length := by
  unfold cutL
  split
  · split
    · exact List.length_filter_le _ _
    · exact Nat.le_refl _
  · exact Nat.le_refl _
set_option maxHeartbeats 8000000 in
set_option maxRecDepth 100000 in
theorem trieDoes_calls (x : Int) (A1 : Option Addr) (c1 : Nat) (l1 : List S47) (w : World) (hr1 : Kd.C k47 w A1 l1.length l1) (hc1 : l1.length ≤ c1) :
    Calls Try.prog 8 #[.int .i64 x, .slice A1 l1.length c1] w fun e w' => e = .returned (.bool true) ∧ Below w.heap.size w w' := by
  have HR := Aside0.mk hr1
  have HC := Aside0.mk hc1
  clear hr1 hc1
  by_cases h60 : (l1.length : Int) > 60
  · have b60 : decide ((60 : Int) < (l1.length : Int)) = true := decide_eq_true h60
    go_enter Try.func8, Try.ntmps8
    go_wp2_with (first
      | (go_at_call 10; refine (awake_calls _).mono ?_; rintro e w1 ⟨rfl, hb1⟩))
    go_ret
    exact ⟨rfl, hb1⟩
  · have b60 : decide ((60 : Int) < (l1.length : Int)) = false := decide_eq_false h60
    have HM := Aside0.mk (show (l1.length : Int) ≤ 60 by omega)
    clear h60
    go_enter Try.func8, Try.ntmps8
    go_wp2_with (first
      | (go_at_call 10; refine (awake_calls _).mono ?_; rintro e w1 ⟨rfl, hb1⟩)
      | (go_at_call 11; refine (new_st hb1 x).mono ?_; rintro e w3 ⟨rfl, hs, hb3⟩; clear hb3 hb1)
      | (go_at_call 19; refine (Sta.doe x hs).mono ?_; rintro e w4 ⟨rfl, hd⟩; clear hs))
    generalize (bd1000 x).toNat = rm at hd
    generalize w1.heap.size = g at hd ⊢
    generalize w3.heap.size = gr at hd ⊢
    go_loopg [8] l1.length (fun k v8 wr => ∃ (j : Int) (L : Es), v8 = .int .i64 j ∧ Aside0 (0 ≤ j ∧ j ≤ (l1.length : Int) ∧ (k : Int) + j = (l1.length : Int) ∧ (L.length : Int) ≤ j) ∧ Aside0 (Doe w wr g gr L L rm))
    case atStart => exact ⟨0, [], rfl, ⟨by omega, by omega, by omega, by simp⟩, ⟨hd⟩⟩
    case round =>
      clear hd
      obtain ⟨j, L, rfl, ⟨hj0, hj1, hj2, hj3⟩, ⟨hd⟩⟩ := hrel
      by_cases hj : j < (l1.length : Int)
      · have bj : decide (j < (l1.length : Int)) = true := decide_eq_true hj
        have bj0 : decide (0 ≤ j) = true := decide_eq_true hj0
        obtain ⟨ad1, rfl, r0, r1, r2, r3⟩ := at_T47 HR.out j hj0 hj
        have q0 := pw_cell_below hd.b r0
        have q1 := pw_cell_below hd.b r1
        have q2 := pw_cell_below hd.b r2
        have q3 := pw_cell_below hd.b r3
        have hm1 := IntWalk.i64_in (j + 1) (by have := HM.out; omega)
        have hfa := hd.t.facts
        have HL := Aside0.mk (And.intro hfa.1 (And.intro hfa.2.2.2.2.2.2 (show L.length ≤ 90 by have := HM.out; omega)))
        have HJ := Aside0.mk (And.intro hj0 (And.intro hj (And.intro hj2 hj3)))
        have HQ := Aside0.mk (And.intro r1 (And.intro r2 r3))
        have HD := Aside0.mk (hd.drewN 1)
        have HD0 := Aside0.mk hd
        have hj0' := eq_true hj0
        have hj' := eq_true hj
        obtain ⟨kd, hkd⟩ : ∃ k, k = (rd_T47 l1 j).f0 := ⟨_, rfl⟩
        rw [← hkd] at q0
        clear hj0 hj1 hj2 hj3 hj hd r0 r1 r2 r3 hfa hkd
        by_cases hk0 : kd = 0
        · subst hk0
          obtain ⟨c, N, hpc⟩ : ∃ c N, putL L rm (rd_T47 l1 j).f2.f0 (rd_T47 l1 j).f2.f1 (rd_T47 l1 j).f1 = (c, N) := ⟨_, _, rfl⟩
          have hp := HD.out.put (rd_T47 l1 j).f2.f0 (rd_T47 l1 j).f2.f1 (rd_T47 l1 j).f1
          have hrp := fun W (h : Doe w W g gr N L rm) => h.rput HL.out.1 HL.out.2.1 HL.out.2.2 (rd_T47 l1 j).f2.f0 (rd_T47 l1 j).f2.f1 (rd_T47 l1 j).f1
          have hNl := putL_length L rm (rd_T47 l1 j).f2.f0 (rd_T47 l1 j).f2.f1 (rd_T47 l1 j).f1
          rw [hpc] at hp hrp hNl
          have HP := Aside0.mk hp
          have HRP := Aside0.mk hrp
          have HN := Aside0.mk (show (N.length : Int) ≤ j + 1 by have := HJ.out; simp only at hNl; omega)
          clear hp hrp hpc hNl
          go_wp2
          go_region_held3 (fun w' => w'.cell? ⟨(ad1.add (j.toNat * 4)).block, (ad1.add (j.toNat * 4)).off + 1, none⟩ = some (.int .i64 (rd_T47 l1 j).f1) ∧ w'.cell? ⟨(ad1.add (j.toNat * 4)).block, (ad1.add (j.toNat * 4)).off + 2, none⟩ = some (.int .i64 (rd_T47 l1 j).f2.f0) ∧ w'.cell? ⟨(ad1.add (j.toNat * 4)).block, (ad1.add (j.toNat * 4)).off + 3, none⟩ = some (.int .i64 (rd_T47 l1 j).f2.f1))
            (first | go_keep | exact ⟨pw_cell_below hd5.b HQ.out.1, pw_cell_below hd5.b HQ.out.2.1, pw_cell_below hd5.b HQ.out.2.2⟩ | exact ⟨pw_cell_below hd6.b HQ.out.1, pw_cell_below hd6.b HQ.out.2.1, pw_cell_below hd6.b HQ.out.2.2⟩)
            (first | (go_at_call 14; refine HP.out.mono ?_; rintro e w5 ⟨rfl, hd5⟩) | (go_at_call 20; refine (HRP.out _ hd5).mono ?_; rintro e w6 ⟨rfl, hd6⟩))
          rename_i hHeld
          clear hHeld HP HRP q0 q1 q2 q3
          have HD6 := Aside0.mk hd6
          clear hd6 hd5
          have hn90 : N.length ≤ 61 := by have := HN.out; have := HJ.out; have := HM.out; omega
          have HN9 := Aside0.mk hn90
          clear hn90
          have HNF := Aside0.mk (nodes_f HD6.out.t.facts.2.2.2.2.2.2 (by have := HN9.out; omega) (k := 2000000) (by omega))
          obtain ⟨vr, hbr, hRr, -⟩ := HD6.out.r
          obtain ⟨Ar, cr, rfl, hcr, hKr⟩ := Kd.R_reads hRr
          have g0 : w6.cell? ⟨gr, 0, none⟩ = some (.slice Ar (ents3 N).length cr) := blk_c hbr 0
          have HKR := Aside0.mk (And.intro hcr (Kd.C_below hKr (pw_below_drewN (Below.refl _ _) 1)))
          clear hbr hRr hcr hKr
          go_wp2
          go_region_held3 (fun w' => w'.cell? ⟨gr, 0, none⟩ = some (.slice Ar (ents3 N).length cr))
            (first | go_keep | exact pw_cell_below hb7 (by assumption))
            (first | (go_at_call 12; refine (walk_st (HD6.out.drewN 1).t).mono ?_; rintro e w7 ⟨v7, rfl, hr7, -, hb7⟩; obtain ⟨A7, c7, rfl, hc7, hK7⟩ := row_C hr7 (by have := HN9.out; omega)) | (go_at_call 15; refine (same_eq hK7 hc7 (Kd.C_below HKR.out.2 hb7) HKR.out.1 (by have := HN9.out; have := ents3_length N; omega)).mono ?_; rintro e w8 ⟨rfl, ⟨n8, rfl⟩⟩))
          rename_i hHeld
          have hd8 := (HD6.out.drewN 1).below (hb7.trans (pw_below_drewN (Below.refl _ _) n8))
          have hk8 := Kd.C_below (Kd.C_below HKR.out.2 hb7) (pw_below_drewN (Below.refl _ _) n8)
          generalize w7.drewN n8 = W8 at hHeld hd8 hk8
          have HD8 := Aside0.mk hd8
          have HK8 := Aside0.mk (And.intro HKR.out.1 (Kd.C_below hk8 (pw_below_drewN (Below.refl _ _) 1)))
          clear hd8 hk8 hb7 hr7 hc7 hK7 HD6 HKR g0
          go_wp2
          go_region_held3 (fun w' => w'.cell? ⟨gr, 0, none⟩ = some (.slice Ar (ents3 N).length cr))
            (first | go_keep | exact pw_cell_below hb9 (by assumption))
            (first | (go_at_call 13; refine (nodes_st (HD8.out.drewN 1).t).mono ?_; rintro e w8' ⟨rfl, rfl⟩) | (go_at_call 23; refine (wayfinderref07_Nodes.calls 2000000 _ _ _ _ _ HK8.out.2 HK8.out.1 HNF.out).mono ?_; rintro e w9 ⟨rfl, hb9⟩))
          rename_i hHeld
          have HD9 := Aside0.mk ((HD8.out.drewN 1).below hb9)
          clear hHeld hb9
          go_wp2
          obtain ⟨h0, h1, h2, h3⟩ := HJ.out
          go_roundg (l1.length - j.toNat - 1)
          case measure => omega
          case rel => exact ⟨j + 1, N, rfl, ⟨by omega, by omega, by omega, HN.out⟩, HD9⟩
        by_cases hk1 : kd = 1
        · subst hk1
          clear hk0
          obtain ⟨c, N, hpc⟩ : ∃ c N, cutL L (rd_T47 l1 j).f2.f0 (rd_T47 l1 j).f2.f1 = (c, N) := ⟨_, _, rfl⟩
          have hp := HD.out.cut (rd_T47 l1 j).f2.f0 (rd_T47 l1 j).f2.f1
          have hrp := fun W (h : Doe w W g gr N L rm) => h.rcut HL.out.1 HL.out.2.1 HL.out.2.2 (rd_T47 l1 j).f2.f0 (rd_T47 l1 j).f2.f1
          have hNl := cutL_length L (rd_T47 l1 j).f2.f0 (rd_T47 l1 j).f2.f1
          rw [hpc] at hp hrp hNl
          have HP := Aside0.mk hp
          have HRP := Aside0.mk hrp
          have HN := Aside0.mk (show (N.length : Int) ≤ j + 1 by have := HJ.out; simp only at hNl; omega)
          clear hp hrp hpc hNl
          go_wp2
          go_region_held3 (fun w' => w'.cell? ⟨(ad1.add (j.toNat * 4)).block, (ad1.add (j.toNat * 4)).off + 2, none⟩ = some (.int .i64 (rd_T47 l1 j).f2.f0) ∧ w'.cell? ⟨(ad1.add (j.toNat * 4)).block, (ad1.add (j.toNat * 4)).off + 3, none⟩ = some (.int .i64 (rd_T47 l1 j).f2.f1))
            (first | go_keep | exact ⟨pw_cell_below hd5.b HQ.out.2.1, pw_cell_below hd5.b HQ.out.2.2⟩ | exact ⟨pw_cell_below hd6.b HQ.out.2.1, pw_cell_below hd6.b HQ.out.2.2⟩)
            (first | (go_at_call 17; refine HP.out.mono ?_; rintro e w5 ⟨rfl, hd5⟩) | (go_at_call 21; refine (HRP.out _ hd5).mono ?_; rintro e w6 ⟨rfl, hd6⟩))
          rename_i hHeld
          clear hHeld HP HRP q0 q1 q2 q3
          have HD6 := Aside0.mk hd6
          clear hd6 hd5
          have hn90 : N.length ≤ 61 := by have := HN.out; have := HJ.out; have := HM.out; omega
          have HN9 := Aside0.mk hn90
          clear hn90
          have HNF := Aside0.mk (nodes_f HD6.out.t.facts.2.2.2.2.2.2 (by have := HN9.out; omega) (k := 2000000) (by omega))
          obtain ⟨vr, hbr, hRr, -⟩ := HD6.out.r
          obtain ⟨Ar, cr, rfl, hcr, hKr⟩ := Kd.R_reads hRr
          have g0 : w6.cell? ⟨gr, 0, none⟩ = some (.slice Ar (ents3 N).length cr) := blk_c hbr 0
          have HKR := Aside0.mk (And.intro hcr (Kd.C_below hKr (pw_below_drewN (Below.refl _ _) 1)))
          clear hbr hRr hcr hKr
          go_wp2
          go_region_held3 (fun w' => w'.cell? ⟨gr, 0, none⟩ = some (.slice Ar (ents3 N).length cr))
            (first | go_keep | exact pw_cell_below hb7 (by assumption))
            (first | (go_at_call 12; refine (walk_st (HD6.out.drewN 1).t).mono ?_; rintro e w7 ⟨v7, rfl, hr7, -, hb7⟩; obtain ⟨A7, c7, rfl, hc7, hK7⟩ := row_C hr7 (by have := HN9.out; omega)) | (go_at_call 15; refine (same_eq hK7 hc7 (Kd.C_below HKR.out.2 hb7) HKR.out.1 (by have := HN9.out; have := ents3_length N; omega)).mono ?_; rintro e w8 ⟨rfl, ⟨n8, rfl⟩⟩))
          rename_i hHeld
          have hd8 := (HD6.out.drewN 1).below (hb7.trans (pw_below_drewN (Below.refl _ _) n8))
          have hk8 := Kd.C_below (Kd.C_below HKR.out.2 hb7) (pw_below_drewN (Below.refl _ _) n8)
          generalize w7.drewN n8 = W8 at hHeld hd8 hk8
          have HD8 := Aside0.mk hd8
          have HK8 := Aside0.mk (And.intro HKR.out.1 (Kd.C_below hk8 (pw_below_drewN (Below.refl _ _) 1)))
          clear hd8 hk8 hb7 hr7 hc7 hK7 HD6 HKR g0
          go_wp2
          go_region_held3 (fun w' => w'.cell? ⟨gr, 0, none⟩ = some (.slice Ar (ents3 N).length cr))
            (first | go_keep | exact pw_cell_below hb9 (by assumption))
            (first | (go_at_call 13; refine (nodes_st (HD8.out.drewN 1).t).mono ?_; rintro e w8' ⟨rfl, rfl⟩) | (go_at_call 23; refine (wayfinderref07_Nodes.calls 2000000 _ _ _ _ _ HK8.out.2 HK8.out.1 HNF.out).mono ?_; rintro e w9 ⟨rfl, hb9⟩))
          rename_i hHeld
          have HD9 := Aside0.mk ((HD8.out.drewN 1).below hb9)
          clear hHeld hb9
          go_wp2
          obtain ⟨h0, h1, h2, h3⟩ := HJ.out
          go_roundg (l1.length - j.toNat - 1)
          case measure => omega
          case rel => exact ⟨j + 1, N, rfl, ⟨by omega, by omega, by omega, HN.out⟩, HD9⟩
        · have z0 : (kd == 0) = false := beq_eq_false_iff_ne.2 hk0
          have z1 : (kd == 1) = false := beq_eq_false_iff_ne.2 hk1
          clear hk0 hk1
          obtain ⟨r, hfr⟩ := HD0.out.t.found (rd_T47 l1 j).f2.f0
          have HFR := Aside0.mk hfr
          have HN := Aside0.mk (show (L.length : Int) ≤ j + 1 by have := HJ.out; omega)
          clear hfr
          go_wp2_with (first
            | (go_at_call 16; refine (HD0.out.find _ HFR.out).mono ?_; rintro e w5 ⟨rfl, hd5, hb5⟩; have HD5 := Aside0.mk (hd5.below ((Below.refl _ _).alloc (Nat.le_refl _) (Obj.cells #[.int .i64 (bestA r), .int .i64 (bestN r), .int .i64 (bestV r)] 33))); clear q0 q1 q2 q3; have q2 := pw_cell_below HD5.out.b HQ.out.2.1; clear hd5 hb5)
            | (go_at_call 22; refine (HD5.out.rfind HL.out.1 HL.out.2.1 HL.out.2.2 _ HFR.out).mono ?_; rintro e w6 ⟨rfl, hd6, hb6⟩; have x0 : w6.cell? ⟨w5.heap.size, 0, none⟩ = some (.int .i64 (bestA r)) := pw_cell_below hb6 (blk_c (heap_alloc_new w5 (Obj.cells #[.int .i64 (bestA r), .int .i64 (bestN r), .int .i64 (bestV r)] 33)) 0); have x1 : w6.cell? ⟨w5.heap.size, 1, none⟩ = some (.int .i64 (bestN r)) := pw_cell_below hb6 (blk_c (heap_alloc_new w5 (Obj.cells #[.int .i64 (bestA r), .int .i64 (bestN r), .int .i64 (bestV r)] 33)) 1); have x2 : w6.cell? ⟨w5.heap.size, 2, none⟩ = some (.int .i64 (bestV r)) := pw_cell_below hb6 (blk_c (heap_alloc_new w5 (Obj.cells #[.int .i64 (bestA r), .int .i64 (bestN r), .int .i64 (bestV r)] 33)) 2); have hz5 := World.block_lt_of_cell? w6 _ x0; have HD6' := Aside0.mk (hd6.below ((Below.refl _ _).alloc (Nat.le_refl _) (Obj.cells #[.int .i64 (bestA r), .int .i64 (bestN r), .int .i64 (bestV r)] 33))); clear hd6 hb6 q2))
          have hd6 := HD6'.out
          generalize w6.alloc (Obj.cells #[.int .i64 (bestA r), .int .i64 (bestN r), .int .i64 (bestV r)] 33) = W6 at hd6
          have HD6 := Aside0.mk hd6
          clear hd6 HD6' x0 x1 x2 hz5
          have hn90 : L.length ≤ 61 := by have := HN.out; have := HJ.out; have := HM.out; omega
          have HN9 := Aside0.mk hn90
          clear hn90
          have HNF := Aside0.mk (nodes_f HD6.out.t.facts.2.2.2.2.2.2 (by have := HN9.out; omega) (k := 2000000) (by omega))
          obtain ⟨vr, hbr, hRr, -⟩ := HD6.out.r
          obtain ⟨Ar, cr, rfl, hcr, hKr⟩ := Kd.R_reads hRr
          have g0 : W6.cell? ⟨gr, 0, none⟩ = some (.slice Ar (ents3 L).length cr) := blk_c hbr 0
          have HKR := Aside0.mk (And.intro hcr (Kd.C_below hKr (pw_below_drewN (Below.refl _ _) 1)))
          clear hbr hRr hcr hKr
          go_wp2
          go_region_held3 (fun w' => w'.cell? ⟨gr, 0, none⟩ = some (.slice Ar (ents3 L).length cr))
            (first | go_keep | exact pw_cell_below hb7 (by assumption))
            (first | (go_at_call 12; refine (walk_st (HD6.out.drewN 1).t).mono ?_; rintro e w7 ⟨v7, rfl, hr7, -, hb7⟩; obtain ⟨A7, c7, rfl, hc7, hK7⟩ := row_C hr7 (by have := HN9.out; omega)) | (go_at_call 15; refine (same_eq hK7 hc7 (Kd.C_below HKR.out.2 hb7) HKR.out.1 (by have := HN9.out; have := ents3_length L; omega)).mono ?_; rintro e w8 ⟨rfl, ⟨n8, rfl⟩⟩))
          rename_i hHeld
          have hd8 := (HD6.out.drewN 1).below (hb7.trans (pw_below_drewN (Below.refl _ _) n8))
          have hk8 := Kd.C_below (Kd.C_below HKR.out.2 hb7) (pw_below_drewN (Below.refl _ _) n8)
          generalize w7.drewN n8 = W8 at hHeld hd8 hk8
          have HD8 := Aside0.mk hd8
          have HK8 := Aside0.mk (And.intro HKR.out.1 (Kd.C_below hk8 (pw_below_drewN (Below.refl _ _) 1)))
          clear hd8 hk8 hb7 hr7 hc7 hK7 HD6 HKR g0
          go_wp2
          go_region_held3 (fun w' => w'.cell? ⟨gr, 0, none⟩ = some (.slice Ar (ents3 L).length cr))
            (first | go_keep | exact pw_cell_below hb9 (by assumption))
            (first | (go_at_call 13; refine (nodes_st (HD8.out.drewN 1).t).mono ?_; rintro e w8' ⟨rfl, rfl⟩) | (go_at_call 23; refine (wayfinderref07_Nodes.calls 2000000 _ _ _ _ _ HK8.out.2 HK8.out.1 HNF.out).mono ?_; rintro e w9 ⟨rfl, hb9⟩))
          rename_i hHeld
          have HD9 := Aside0.mk ((HD8.out.drewN 1).below hb9)
          clear hHeld hb9
          go_wp2
          obtain ⟨h0, h1, h2, h3⟩ := HJ.out
          go_roundg (l1.length - j.toNat - 1)
          case measure => omega
          case rel => exact ⟨j + 1, L, rfl, ⟨by omega, by omega, by omega, HN.out⟩, HD9⟩
      · have bj : decide (j < (l1.length : Int)) = false := decide_eq_false hj
        have HB := Aside0.mk hd.b
        clear hj0 hj1 hj2 hj3 hj hd
        go_wp2
        go_ret
        exact ⟨rfl, HB.out⟩
end Go.Proofs.Ytjffikckddijmaa
