/-
  Chapter 7: the law TrieBack, walked.
-/
import Derived.Test.YtjffikckddijmaaTriJ
namespace Go.Proofs.Ytjffikckddijmaa
open Go.RowKit Go.Proofs.YtjffikckddijmaaW.PrintWords Go.Proofs.YtjffikckddijmaaW.PrintLast Go.Proofs.YtjffikckddijmaaW.PrintMore
open All All.BM
attribute [local go_sem] max2_int min2_int max_two min_two max_three min_three max_four min_four
set_option linter.unusedVariables false
set_option linter.unusedSimpArgs false
attribute [local go_sem high] eqA31 eqA33
theorem ks_putAll (room : Nat) (l : List S33) (k : K) (h : k ∈ ks (putAll room l)) : ∃ e ∈ l, isPre e.f0.f0 e.f0.f1 ∧ kOf e.f0.f0 e.f0.f1 = k := by
  have : ∀ (l : List S33) (L : Es), Srt L → k ∈ ks (l.foldl (put1 room) L) → k ∈ ks L ∨ ∃ e ∈ l, isPre e.f0.f0 e.f0.f1 ∧ kOf e.f0.f0 e.f0.f1 = k := by
    intro l
    induction l with
    | nil => intro L _ h; exact .inl h
    | cons e l ih =>
      intro L hL h
      rcases ih (put1 room L e) (srt_putL hL _ _ _ _) h with h | ⟨f, hf, h⟩
      · have hk : k ∈ ks L ∨ (isPre e.f0.f0 e.f0.f1 ∧ kOf e.f0.f0 e.f0.f1 = k) := by
          unfold put1 putL at h
          split at h
          · rename_i hp
            split at h
            · rcases (ks_insL hL _ _ _).1 h with h | h
              · exact .inr ⟨hp, h.symm⟩
              · exact .inl h
            · exact .inl h
          · exact .inl h
        rcases hk with h | h
        · exact .inl h
        · exact .inr ⟨e, List.mem_cons_self, h⟩
      · exact .inr ⟨f, List.mem_cons_of_mem _ hf, h⟩
  rcases this l [] List.Pairwise.nil h with h | h
  · cases h
  · exact h
theorem kOf_inj {a n b m : Int} (h1 : isPre a n) (h2 : isPre b m) (h : kOf a n = kOf b m) : a = b ∧ n = m := by
  obtain ⟨_, e1, e2⟩ := kOf_spec h1
  obtain ⟨_, e3, e4⟩ := kOf_spec h2
  exact ⟨e1.trans (by rw [h]; exact e3.symm), e2.trans (by rw [h]; exact e4.symm)⟩
theorem back {L : Es} (hL : Srt L) (hl : L.length ≤ 60) {a n : Int} (hn : isPre a n → kOf a n ∉ ks L) (v : Int) : ∃ c M d, putL L 1000 a n v = (c, M) ∧ cutL M a n = (c, L) ∧ cutL L a n = (d, L) ∧ d ≠ 0 := by
  by_cases hp : isPre a n
  · refine ⟨0, insL L (kOf a n) v, 5, putL_ok hL (by omega) hp v, ?_, ?_, by decide⟩
    · unfold cutL
      rw [if_pos hp, if_pos ((ks_insL hL _ _ _).2 (.inl rfl)), delL_insL hL v (hn hp)]
    · unfold cutL
      rw [if_pos hp, if_neg (hn hp)]
  · refine ⟨1, L, 1, putL_bad hp v, ?_, ?_, by decide⟩ <;> · unfold cutL; rw [if_neg hp]
set_option maxHeartbeats 4000000 in
set_option maxRecDepth 100000 in
theorem trieBack_calls (A0 : Option Addr) (c0 : Nat) (l0 : List S33) (x0 x1 : Int) (w : World) (hr0 : Kd.C k33 w A0 l0.length l0) (hc0 : l0.length ≤ c0) :
    Calls Try.prog 4 #[.slice A0 l0.length c0, .agg #[.int .i64 x0, .int .i64 x1]] w fun e w' => e = .returned (.bool true) ∧ Below w.heap.size w w' := by
  have HR := Aside0.mk hr0
  have HC := Aside0.mk hc0
  clear hr0 hc0
  by_cases h60 : (l0.length : Int) > 60
  · have b60 : decide ((60 : Int) < (l0.length : Int)) = true := decide_eq_true h60
    go_enter Try.func4, Try.ntmps4
    go_wp2_with (first
      | (go_at_call 10; refine (awake_calls _).mono ?_; rintro e w1 ⟨rfl, hb1⟩))
    go_ret
    exact ⟨rfl, below_step ((Below.refl _ _).alloc (Nat.le_refl _) _) hb1⟩
  · have b60 : decide ((60 : Int) < (l0.length : Int)) = false := decide_eq_false h60
    have hm : (l0.length : Int) ≤ 60 := by omega
    have HM := Aside0.mk hm
    clear h60 hm
    go_enter Try.func4, Try.ntmps4
    go_wp2_with (first
      | (go_at_call 10; refine (awake_calls _).mono ?_; rintro e w1 ⟨rfl, hb1⟩; have e0 := (hb1.block w.heap.size (by simp)).trans (heap_alloc_new w _); have B1 := Aside0.mk (below_step ((Below.refl _ _).alloc (Nat.le_refl _) _) hb1); clear hb1)
      | (go_at_call 11; refine (new_st (w := w1) (Below.refl _ _) 1000).mono ?_; rintro e w3 ⟨rfl, hs, hb3⟩; clear hb3))
    replace hs : Sta w1 w3 w1.heap.size [] 1000 := hs
    have b0 : w1.cell? ⟨w.heap.size, 0, none⟩ = some (.int .i64 x0) := blk_c e0 0
    have b1 : w1.cell? ⟨w.heap.size, 1, none⟩ = some (.int .i64 x1) := blk_c e0 1
    have BB := Aside0.mk (And.intro b0 b1)
    clear e0 b0 b1
    have hg : Aside0 (∃ g, g = w1.heap.size) := ⟨⟨_, rfl⟩⟩
    generalize w1.heap.size = g at hs ⊢
    go_loopg [7] l0.length (fun k v7 wr => ∃ j : Int, v7 = .int .i64 j ∧ Aside0 (0 ≤ j ∧ j ≤ (l0.length : Int) ∧ (k : Int) + j = (l0.length : Int)) ∧ Aside0 (Sta w1 wr g (putAll 1000 (l0.take j.toNat)) 1000 ∧ ∀ e ∈ l0.take j.toNat, ¬ (e.f0.f0 = x0 ∧ e.f0.f1 = x1)))
    case atStart => exact ⟨0, rfl, ⟨by omega, by omega, by omega⟩, ⟨hs, by simp⟩⟩
    case round =>
      clear hs
      obtain ⟨j, rfl, ⟨hj0, hj1, hj2⟩, ⟨hs, hall⟩⟩ := hrel
      by_cases hj : j < (l0.length : Int)
      · have bj : decide (j < (l0.length : Int)) = true := decide_eq_true hj
        have bj0 : decide (0 ≤ j) = true := decide_eq_true hj0
        obtain ⟨ad0, rfl, r0, r1, r2⟩ := at_T33 (Kd.C_below HR.out B1.out) j hj0 hj
        have q0 := pw_cell_below hs.b r0
        have q1 := pw_cell_below hs.b r1
        have q2 := pw_cell_below hs.b r2
        have hput := Aside0.mk (putAll_calls j hj0 hj (hs.drewN 1))
        have hm1 := IntWalk.i64_in (j + 1) (by have := HM.out; omega)
        have hrd := rd_some l0 j hj0 hj
        have hnew : ∀ e ∈ l0.take (j + 1).toNat, e ∈ l0.take j.toNat ∨ e = rd_T33 l0 j := by
          intro e he
          have ee : (j + 1).toNat = j.toNat + 1 := by omega
          obtain ⟨hi, hx⟩ := List.getElem?_eq_some_iff.1 hrd
          rw [ee, List.take_succ_eq_append_getElem hi, hx] at he
          rcases List.mem_append.1 he with h | h
          · exact .inl h
          · exact .inr (by simpa using h)
        have HJ := Aside0.mk (And.intro hj0 (And.intro hj (And.intro hj2 (And.intro hall hnew))))
        have hj0' := eq_true hj0
        have hj' := eq_true hj
        clear hs hj0 hj1 hj2 hj hall hnew hrd
        go_wp2
        go_region_held3 (fun w' => w'.cell? (ad0.add (j.toNat * 3)) = some (.int .i64 (rd_T33 l0 j).f0.f0) ∧ w'.cell? ⟨(ad0.add (j.toNat * 3)).block, (ad0.add (j.toNat * 3)).off + 1, none⟩ = some (.int .i64 (rd_T33 l0 j).f0.f1) ∧ w'.cell? ⟨(ad0.add (j.toNat * 3)).block, (ad0.add (j.toNat * 3)).off + 2, none⟩ = some (.int .i64 (rd_T33 l0 j).f1))
          (first | go_keep | exact ⟨pw_cell_below hs5.b (by assumption), pw_cell_below hs5.b (by assumption), pw_cell_below hs5.b (by assumption)⟩)
          (first | (go_at_call 14; refine hput.out.mono ?_; rintro e w5 ⟨⟨c5, rfl⟩, hs5, hk5⟩))
        have b0 := pw_cell_below hs5.b BB.out.1
        have b1 := pw_cell_below hs5.b BB.out.2
        cases hb : ((rd_T33 l0 j).f0.f0 == x0 && ((rd_T33 l0 j).f0.f1 == x1))
        · have HB := Aside0.mk hb
          have HS5 := Aside0.mk hs5
          clear hs5 hk5
          go_wp2
          repeat (go_quiet (fail); try go_wp2)
          obtain ⟨h0, h1, h2, h3, h4⟩ := HJ.out
          go_roundg (l0.length - j.toNat - 1)
          case measure => omega
          case rel =>
            refine ⟨j + 1, rfl, ⟨by omega, by omega, by omega⟩, ⟨HS5.out.drewN _, fun e he => ?_⟩⟩
            rcases h4 e he with h | rfl
            · exact h3 e h
            · rintro ⟨e1, e2⟩
              have := HB.out
              rw [e1, e2] at this
              simp at this
        · have HS5 := Aside0.mk hs5
          clear hs5 hk5
          go_wp2
          repeat (go_quiet (fail); try go_wp2)
          go_ret
          exact ⟨rfl, below_step B1.out (HS5.out.drewN _).b⟩
      · have bj : decide (j < (l0.length : Int)) = false := decide_eq_false hj
        have ej : l0.take j.toNat = l0 := List.take_of_length_le (by omega)
        rw [ej] at hs hall
        obtain ⟨hL1, hL2⟩ := putAll_facts 1000 l0
        have hno : isPre x0 x1 → kOf x0 x1 ∉ ks (putAll 1000 l0) := by
          intro hp hk
          obtain ⟨e, he, h1, h2⟩ := ks_putAll 1000 l0 _ hk
          exact hall e he (kOf_inj h1 hp h2)
        generalize putAll 1000 l0 = L at hs hL1 hL2 hno
        have hlM : L.length ≤ 60 := by have := HM.out; omega
        obtain ⟨c, M, d, p1, p2, p3, hd⟩ := back hL1 hlM hno 5
        have hd1 : (d == 0) = false := by simpa using hd
        have hd2 : (d != 0) = true := by simpa using hd
        have HPP := Aside0.mk (And.intro p1 (And.intro p2 p3))
        have HMM := Aside0.mk hlM
        have q0 := pw_cell_below hs.b BB.out.1
        have q1 := pw_cell_below hs.b BB.out.2
        clear hj0 hj1 hj2 hj ej hL1 hL2 hlM hall hno hd p1 p2 p3
        go_wp2_with (first
          | (go_at_call 12; refine (walk_st hs).mono ?_; rintro e w7 ⟨v7, rfl, hr7, hs7, hb7⟩; obtain ⟨A1, c1, rfl, hc1, hK⟩ := row_C hr7 (by have := HMM.out; omega); have HS7 := Aside0.mk hs7; have HR7 := Aside0.mk hr7; have HC1 := Aside0.mk hc1; have b0 := pw_cell_below hs7.b BB.out.1; have b1 := pw_cell_below hs7.b BB.out.2; clear hs hr7 hs7 hb7 hK hc1 q0 q1)
          | (go_at_call 13; refine (nodes_st HS7.out).mono ?_; rintro e w8 ⟨rfl, rfl⟩)
          | (go_at_call 14; refine (put_st HS7.out x0 x1 5).mono ?_; rw [HPP.out.1]; rintro e w8 ⟨rfl, hs8, hk8⟩; have HS8 := Aside0.mk hs8; have HK8 := Aside0.mk hk8; have d0 := pw_cell_below hs8.b BB.out.1; have d1 := pw_cell_below hs8.b BB.out.2; clear hs8 hk8 b0 b1)
          | (go_at_call 17; refine (cut_st HS8.out x0 x1).mono ?_; rw [HPP.out.2.1]; rintro e w9 ⟨rfl, hs9, hk9⟩; have HS9 := Aside0.mk hs9; have HK9 := Aside0.mk (HK8.out.trans hk9); clear hs9 hk9 d0 d1)
          | (go_at_call 12; refine (walk_st HS9.out).mono ?_; rintro e w10 ⟨v10, rfl, hr10, hs10, hb10⟩; obtain ⟨A2, c2, rfl, hc2, hK2⟩ := row_C hr10 (by have := HMM.out; omega); have hK1 := row_K ((HK9.out.trans (Kept.of_below hb10)).row HR7.out) (by have := HMM.out; omega); have HS10 := Aside0.mk hs10; clear hr10 hs10 hb10)
          | (go_at_call 15; refine (same_eq hK2 hc2 hK1 HC1.out (by have := HMM.out; have := ents3_length L; omega)).mono ?_; rintro e w11 ⟨rfl, ⟨n11, rfl⟩⟩; have f0 := pw_cell_below HS10.out.b BB.out.1; have f1 := pw_cell_below HS10.out.b BB.out.2; clear hK2 hK1)
          | (go_at_call 13; refine (nodes_st (HS10.out.drewN _)).mono ?_; rintro e w8 ⟨rfl, rfl⟩)
          | (go_at_call 17; refine (cut_st (HS10.out.drewN _) x0 x1).mono ?_; rw [HPP.out.2.2]; rintro e w12 ⟨rfl, hs12, hk12⟩; have HS12 := Aside0.mk hs12; clear hs12 hk12))
        go_ret
        exact ⟨by first | rfl | simp [hd1, hd2], below_step B1.out HS12.out.b⟩
end Go.Proofs.Ytjffikckddijmaa
