/-
  Chapter 7: the law TrieWalks, walked.
-/
import Derived.Test.YtjffikckddijmaaTriJ
namespace Go.Proofs.Ytjffikckddijmaa
open Go.RowKit Go.Proofs.YtjffikckddijmaaW.PrintWords Go.Proofs.YtjffikckddijmaaW.PrintLast Go.Proofs.YtjffikckddijmaaW.PrintMore
open All All.BM
attribute [local go_sem] max2_int min2_int max_two min_two max_three min_three max_four min_four
set_option linter.unusedVariables false
set_option linter.unusedSimpArgs false
attribute [local go_sem high] eqA31 eqA33
set_option maxHeartbeats 4000000 in
set_option maxRecDepth 100000 in
theorem trieWalks_calls (A0 : Option Addr) (c0 : Nat) (l0 : List S33) (w : World) (hr0 : Kd.C k33 w A0 l0.length l0) (hc0 : l0.length ≤ c0) :
    Calls Try.prog 6 #[.slice A0 l0.length c0] w fun e w' => e = .returned (.bool true) ∧ Below w.heap.size w w' := by
  have HR := Aside0.mk hr0
  have HC := Aside0.mk hc0
  clear hr0 hc0
  by_cases h60 : (l0.length : Int) > 60
  · have b60 : decide ((60 : Int) < (l0.length : Int)) = true := decide_eq_true h60
    go_enter Try.func6, Try.ntmps6
    go_wp2_with (first
      | (go_at_call 10; refine (awake_calls _).mono ?_; rintro e w1 ⟨rfl, hb1⟩))
    go_ret
    exact ⟨rfl, hb1⟩
  · have b60 : decide ((60 : Int) < (l0.length : Int)) = false := decide_eq_false h60
    have hm : (l0.length : Int) ≤ 60 := by omega
    have HM := Aside0.mk hm
    clear h60 hm
    go_enter Try.func6, Try.ntmps6
    go_wp2_with (first
      | (go_at_call 10; refine (awake_calls _).mono ?_; rintro e w1 ⟨rfl, hb1⟩)
      | (go_at_call 11; refine (new_st hb1 1000).mono ?_; rintro e w3 ⟨rfl, hs, hb3⟩; clear hb3 hb1))
    replace hs : Sta w w3 w1.heap.size [] 1000 := hs
    generalize w1.heap.size = g at hs ⊢
    go_loopg [5] l0.length (fun k v5 wr => ∃ j : Int, v5 = .int .i64 j ∧ Aside0 (0 ≤ j ∧ j ≤ (l0.length : Int) ∧ (k : Int) + j = (l0.length : Int)) ∧ Aside0 (Sta w wr g (putAll 1000 (l0.take j.toNat)) 1000))
    case atStart => exact ⟨0, rfl, ⟨by omega, by omega, by omega⟩, ⟨hs⟩⟩
    case round =>
      clear hs
      obtain ⟨j, rfl, ⟨hj0, hj1, hj2⟩, ⟨hs⟩⟩ := hrel
      by_cases hj : j < (l0.length : Int)
      · have bj : decide (j < (l0.length : Int)) = true := decide_eq_true hj
        have bj0 : decide (0 ≤ j) = true := decide_eq_true hj0
        obtain ⟨ad0, rfl, r0, r1, r2⟩ := at_T33 HR.out j hj0 hj
        have q0 := pw_cell_below hs.b r0
        have q1 := pw_cell_below hs.b r1
        have q2 := pw_cell_below hs.b r2
        have hput := Aside0.mk (putAll_calls j hj0 hj (hs.drewN 1))
        have hm1 := IntWalk.i64_in (j + 1) (by have := HM.out; omega)
        have HJ := Aside0.mk (And.intro hj0 (And.intro hj hj2))
        have hj0' := eq_true hj0
        have hj' := eq_true hj
        clear hs hj0 hj1 hj2 hj
        go_wp2
        go_region_held3 (fun w' => w'.cell? (ad0.add (j.toNat * 3)) = some (.int .i64 (rd_T33 l0 j).f0.f0) ∧ w'.cell? ⟨(ad0.add (j.toNat * 3)).block, (ad0.add (j.toNat * 3)).off + 1, none⟩ = some (.int .i64 (rd_T33 l0 j).f0.f1) ∧ w'.cell? ⟨(ad0.add (j.toNat * 3)).block, (ad0.add (j.toNat * 3)).off + 2, none⟩ = some (.int .i64 (rd_T33 l0 j).f1))
          (first | go_keep | exact ⟨pw_cell_below hs5.b (by assumption), pw_cell_below hs5.b (by assumption), pw_cell_below hs5.b (by assumption)⟩)
          (first | (go_at_call 14; refine hput.out.mono ?_; rintro e w5 ⟨⟨c5, rfl⟩, hs5, hk5⟩))
        go_wp2
        obtain ⟨h0, h1, h2⟩ := HJ.out
        go_roundg (l0.length - j.toNat - 1)
        case measure => omega
        case rel => exact ⟨j + 1, rfl, ⟨by omega, by omega, by omega⟩, ⟨hs5⟩⟩
      · have bj : decide (j < (l0.length : Int)) = false := decide_eq_false hj
        have ej : l0.take j.toNat = l0 := List.take_of_length_le (by omega)
        rw [ej] at hs
        obtain ⟨hL1, hL2⟩ := putAll_facts 1000 l0
        generalize putAll 1000 l0 = M at hs hL1 hL2
        have hlM : M.length ≤ 60 := by have := HM.out; omega
        have HMM := Aside0.mk (And.intro hL1 (And.intro hlM (And.intro hL2 hs.facts.2.2.2.2.2.2)))
        clear hj0 hj1 hj2 hj ej hL1 hL2 hlM
        go_wp2_with (first
          | (go_at_call 12; refine (walk_st hs).mono ?_; rintro e w7 ⟨v7, rfl, hr7, hs7, hb7⟩; obtain ⟨A1, c1, rfl, hc1, hK⟩ := row_C hr7 (by have := HMM.out.2.1; omega); have HS7 := Aside0.mk hs7; have HR7 := Aside0.mk hr7; have HC1 := Aside0.mk hc1; clear hs hr7 hs7 hb7 hK hc1))
        generalize wr.heap.size = bs at HR7
        go_loopg [7] (ents3 M).length (fun k v7 wx => ∃ i : Int, v7 = .int .i64 i ∧ Aside0 (0 ≤ i ∧ i ≤ ((ents3 M).length : Int) ∧ (k : Int) + i = ((ents3 M).length : Int)) ∧ Aside0 (Sta w wx g M 1000 ∧ wx.ownsRow bs 33 3 (.slice A1 (ents3 M).length c1) M.length (rowsE M)))
        case atStart => exact ⟨0, rfl, ⟨by omega, by omega, by omega⟩, ⟨HS7.out, HR7.out⟩⟩
        case round =>
          clear HS7 HR7
          obtain ⟨i, rfl, ⟨hi0, hi1, hi2⟩, ⟨hs, hr⟩⟩ := hrel
          by_cases hi : i < ((ents3 M).length : Int)
          · have bi : decide (i < ((ents3 M).length : Int)) = true := decide_eq_true hi
            have bi0 : decide (0 ≤ i) = true := decide_eq_true hi0
            obtain ⟨ad1, e, rfl, he, hrd, r0, r1, r2⟩ := row_cells hr (by have := HMM.out.2.1; omega) i hi0 hi
            have hme := mem_of_get he
            have hle := HMM.out.2.2.2 e hme
            obtain ⟨r, hfr⟩ := hs.found (ad e.1 : Int)
            obtain ⟨f, rfl, hfl⟩ := find_own hme hle hfr
            have hfind := fun W (hs : Sta w W g M 1000) => find_st hs (ad e.1 : Int) hfr
            simp only [bestA, bestN, bestV, Option.isSome] at hfind
            have hmay : bits_May.f (ad e.1 : Int) (e.1.length : Int) = some true := by rw [f_May, decide_eq_true (key_isPre hle)]
            have hm1 := IntWalk.i64_in (i + 1) (by have := HMM.out.2.1; have := ents3_length M; omega)
            have hm0 := IntWalk.i64_in (i - 1) (by have := HMM.out.2.1; have := ents3_length M; omega)
            have bf : decide ((f.1.length : Int) < (e.1.length : Int)) = false := decide_eq_false (by omega)
            have bf' : decide (f.1.length < e.1.length) = false := decide_eq_false (by omega)
            have HS := Aside0.mk (And.intro hs hr)
            have HF := Aside0.mk hfind
            have HY := Aside0.mk hmay
            have HJ := Aside0.mk (And.intro hi0 (And.intro hi (And.intro hi2 he)))
            by_cases hz : i = 0
            · have bz : decide ((0 : Int) < i) = false := decide_eq_false (by omega)
              have hi0' := eq_true hi0
              have hi' := eq_true hi
              clear hs hr hi0 hi1 hi2 hi hz he hrd hme hle hfl hfr hfind hmay
              go_wp2
              go_quiet (fail)
              have hs2 := HS.out.1.drewN nq
              have hr2 : (wr.drewN nq).ownsRow bs 33 3 (.slice (some ad1) (ents3 M).length c1) M.length (rowsE M) := HS.out.2
              generalize wr.drewN nq = W2 at hs2 hr2
              have R2 := row_cells' hr2 (by have := HMM.out.2.1; omega) i HJ.out.1 HJ.out.2.1 HJ.out.2.2.2
              have HS2 := Aside0.mk (And.intro hs2 hr2)
              clear r0 r1 r2 hs2 hr2
              obtain ⟨r0, r1, r2⟩ := R2
              go_wp2_with (first
                | (go_at_call 16; refine (HF.out _ HS2.out.1).mono ?_; rintro e1 w8 ⟨rfl, hs8, hb8⟩; have q0 := pw_cell_below hb8 r0; have q1 := pw_cell_below hb8 r1; have q2 := pw_cell_below hb8 r2; have HS8 := Aside0.mk (And.intro hs8 ((Kept.of_below hb8).row HS2.out.2)); clear hs8 hb8 r0 r1 r2))
              have ha := (Below.refl w8.heap.size w8).alloc (Nat.le_refl _) (Obj.cells #[.int .i64 (ad f.1 : Int), .int .i64 (f.1.length : Int), .int .i64 f.2] 33)
              have p0 := pw_cell_below ha q0
              have p1 := pw_cell_below ha q1
              have f1 : (w8.alloc (Obj.cells #[.int .i64 (ad f.1 : Int), .int .i64 (f.1.length : Int), .int .i64 f.2] 33)).cell? ⟨w8.heap.size, 1, none⟩ = some (.int .i64 (f.1.length : Int)) := blk_c (heap_alloc_new w8 _) 1
              have hs9 := HS8.out.1.below ha
              have hr9 := (Kept.of_below ha).row HS8.out.2
              generalize (w8.alloc (Obj.cells #[.int .i64 (ad f.1 : Int), .int .i64 (f.1.length : Int), .int .i64 f.2] 33)) = W9 at p0 p1 f1 hs9 hr9
              have HS9 := Aside0.mk (And.intro hs9 hr9)
              clear ha q0 q1 q2 hs9 hr9 HS8
              go_region_held3 (fun w' => w'.cell? (ad1.add (i.toNat * 3)) = some (.int .i64 (ad e.1 : Int)) ∧ w'.cell? ⟨(ad1.add (i.toNat * 3)).block, (ad1.add (i.toNat * 3)).off + 1, none⟩ = some (.int .i64 (e.1.length : Int)) ∧ w'.cell? ⟨w8.heap.size, 1, none⟩ = some (.int .i64 (f.1.length : Int)))
                (first | go_keep | exact ⟨pw_cell_below hb9 (by assumption), pw_cell_below hb9 (by assumption), pw_cell_below hb9 (by assumption)⟩)
                (first | (go_at_call 18; refine (bits_May.calls _ _ _ _ HY.out).mono ?_; rintro e1 w9 ⟨rfl, hb9⟩))
              rename_i hHeld
              clear hHeld
              have hs10 := Sta.below (HS9.out.1.drewN 1) hb9
              have hr10 : w9.ownsRow bs 33 3 (.slice (some ad1) (ents3 M).length c1) M.length (rowsE M) := (Kept.of_below hb9).row (A := W9.drewN 1) HS9.out.2
              have HS10 := Aside0.mk (And.intro hs10 hr10)
              clear hs10 hr10 hb9 p0 p1 f1
              go_wp2
              obtain ⟨h0, h1, h2, -⟩ := HJ.out
              go_roundg ((ents3 M).length - i.toNat - 1)
              case measure => omega
              case rel => exact ⟨i + 1, rfl, ⟨by omega, by omega, by omega⟩, HS10⟩
            · have bz : decide ((0 : Int) < i) = true := decide_eq_true (by omega)
              obtain ⟨k, hk⟩ : ∃ k, k = i - 1 := ⟨_, rfl⟩
              replace hm0 : IntKind.i64.wrap (i - 1) = k := hm0.trans hk.symm
              have hk0 : 0 ≤ k := by omega
              have hk1 : k < ((ents3 M).length : Int) := by omega
              obtain ⟨b', e0, hb', he0, hrd0, t0, t1, t2⟩ := row_cells hr (by have := HMM.out.2.1; omega) k hk0 hk1
              cases hb'
              have hlt := (lt_iff (HMM.out.2.2.2 e0 (mem_of_get he0)) hle).1 (srt_get HMM.out.1 he0 he (by omega))
              have i10 : decide (0 ≤ k) = true := decide_eq_true hk0
              have i11 : decide (k < ((ents3 M).length : Int)) = true := decide_eq_true hk1
              have i10' : (0 ≤ k) = True := eq_true hk0
              have i11' : (k < ((ents3 M).length : Int)) = True := eq_true hk1
              have g1 : decide ((ad e.1 : Int) < (ad e0.1 : Int)) = false := decide_eq_false (by omega)
              have g1' : decide (ad e.1 < ad e0.1) = false := decide_eq_false (by omega)
              have hgg : (((ad e0.1 : Int) == (ad e.1 : Int)) = false ∧ (ad e0.1 == ad e.1) = false) ∨ (((ad e0.1 : Int) == (ad e.1 : Int)) = true ∧ (ad e0.1 == ad e.1) = true ∧ decide ((e.1.length : Int) ≤ (e0.1.length : Int)) = false ∧ decide (e.1.length ≤ e0.1.length) = false) := by
                rcases hlt with h | ⟨h, h'⟩
                · left
                  exact ⟨beq_eq_false_iff_ne.2 (by omega), beq_eq_false_iff_ne.2 (by omega)⟩
                · right
                  exact ⟨beq_iff_eq.2 (by omega), beq_iff_eq.2 h, decide_eq_false (by omega), decide_eq_false (by omega)⟩
              have hi0' := eq_true hi0
              have hi' := eq_true hi
              clear hs hr hi0 hi1 hi2 hi hz he hrd hme hle hfl hfr hfind hmay hlt he0 hrd0 hk hk0 hk1
              rcases hgg with ⟨g2, g3⟩ | ⟨g2, g3, g4, g5⟩
              all_goals (
              go_wp2
              go_quiet (fail)
              have hs2 := HS.out.1.drewN nq
              have hr2 : (wr.drewN nq).ownsRow bs 33 3 (.slice (some ad1) (ents3 M).length c1) M.length (rowsE M) := HS.out.2
              generalize wr.drewN nq = W2 at hs2 hr2
              have R2 := row_cells' hr2 (by have := HMM.out.2.1; omega) i HJ.out.1 HJ.out.2.1 HJ.out.2.2.2
              have HS2 := Aside0.mk (And.intro hs2 hr2)
              clear r0 r1 r2 t0 t1 t2 hs2 hr2
              obtain ⟨r0, r1, r2⟩ := R2
              go_wp2_with (first
                | (go_at_call 16; refine (HF.out _ HS2.out.1).mono ?_; rintro e1 w8 ⟨rfl, hs8, hb8⟩; have q0 := pw_cell_below hb8 r0; have q1 := pw_cell_below hb8 r1; have q2 := pw_cell_below hb8 r2; have HS8 := Aside0.mk (And.intro hs8 ((Kept.of_below hb8).row HS2.out.2)); clear hs8 hb8 r0 r1 r2))
              have ha := (Below.refl w8.heap.size w8).alloc (Nat.le_refl _) (Obj.cells #[.int .i64 (ad f.1 : Int), .int .i64 (f.1.length : Int), .int .i64 f.2] 33)
              have p0 := pw_cell_below ha q0
              have p1 := pw_cell_below ha q1
              have f1 : (w8.alloc (Obj.cells #[.int .i64 (ad f.1 : Int), .int .i64 (f.1.length : Int), .int .i64 f.2] 33)).cell? ⟨w8.heap.size, 1, none⟩ = some (.int .i64 (f.1.length : Int)) := blk_c (heap_alloc_new w8 _) 1
              have hs9 := HS8.out.1.below ha
              have hr9 := (Kept.of_below ha).row HS8.out.2
              generalize (w8.alloc (Obj.cells #[.int .i64 (ad f.1 : Int), .int .i64 (f.1.length : Int), .int .i64 f.2] 33)) = W9 at p0 p1 f1 hs9 hr9
              have HS9 := Aside0.mk (And.intro hs9 hr9)
              clear ha q0 q1 q2 hs9 hr9 HS8
              go_region_held3 (fun w' => w'.cell? (ad1.add (i.toNat * 3)) = some (.int .i64 (ad e.1 : Int)) ∧ w'.cell? ⟨(ad1.add (i.toNat * 3)).block, (ad1.add (i.toNat * 3)).off + 1, none⟩ = some (.int .i64 (e.1.length : Int)) ∧ w'.cell? ⟨w8.heap.size, 1, none⟩ = some (.int .i64 (f.1.length : Int)))
                (first | go_keep | exact ⟨pw_cell_below hb9 (by assumption), pw_cell_below hb9 (by assumption), pw_cell_below hb9 (by assumption)⟩)
                (first | (go_at_call 18; refine (bits_May.calls _ _ _ _ HY.out).mono ?_; rintro e1 w9 ⟨rfl, hb9⟩))
              rename_i hHeld
              clear hHeld
              have hs10 := Sta.below (HS9.out.1.drewN 1) hb9
              have hr10 : w9.ownsRow bs 33 3 (.slice (some ad1) (ents3 M).length c1) M.length (rowsE M) := (Kept.of_below hb9).row (A := W9.drewN 1) HS9.out.2
              have HS10 := Aside0.mk (And.intro hs10 hr10)
              clear hs10 hr10 hb9 p0 p1 f1
              go_wp2
              obtain ⟨h0, h1, h2, -⟩ := HJ.out
              go_roundg ((ents3 M).length - i.toNat - 1)
              case measure => omega
              case rel => exact ⟨i + 1, rfl, ⟨by omega, by omega, by omega⟩, HS10⟩)
          · have bi : decide (i < ((ents3 M).length : Int)) = false := decide_eq_false hi
            have bl : decide ((ents3 M).length ≤ l0.length) = true := decide_eq_true (by have := HMM.out.2.2.1; have := ents3_length M; omega)
            have HS := Aside0.mk hs
            clear hs hr hi0 hi1 hi2 hi
            go_wp2
            go_ret
            exact ⟨rfl, HS.out.b⟩
end Go.Proofs.Ytjffikckddijmaa
