/-
  Chapter 7: the law TrieSmall, walked.
-/
import Derived.Test.YtjffikckddijmaaTriJ
namespace Go.Proofs.Ytjffikckddijmaa
open Go.RowKit Go.Proofs.YtjffikckddijmaaW.PrintWords Go.Proofs.YtjffikckddijmaaW.PrintLast Go.Proofs.YtjffikckddijmaaW.PrintMore
open All All.BM
attribute [local go_sem] max2_int min2_int max_two min_two max_three min_three max_four min_four
set_option linter.unusedVariables false
set_option linter.unusedSimpArgs false
attribute [local go_sem high] eqA31 eqA33
theorem put_nil0 (w : World) : Calls Try.prog 14 #[.pointer none, .agg #[.int .i64 0, .int .i64 0], .int .i64 1] w fun e w' => e = .returned (.int .i64 7) ∧ Below w.heap.size w w' := put_nil [] (by simp) 1 w
theorem cut_nil0 (w : World) : Calls Try.prog 17 #[.pointer none, .agg #[.int .i64 0, .int .i64 0]] w fun e w' => e = .returned (.int .i64 5) ∧ Below w.heap.size w w' := cut_nil [] (by simp) w
theorem putL_same (L : Es) (rm : Nat) (a n v : Int) (h : (putL L rm a n v).1 ≠ 0) : (putL L rm a n v).2 = L := by
  unfold putL at h ⊢
  split
  · split
    · rename_i h1 h2; rw [if_pos h1, if_pos h2] at h; exact absurd rfl h
    · rfl
  · rfl
set_option maxHeartbeats 4000000 in
set_option maxRecDepth 100000 in
theorem trieSmall_calls (A0 : Option Addr) (c0 : Nat) (l0 : List S33) (x : Int) (w : World) (hr0 : Kd.C k33 w A0 l0.length l0) (hc0 : l0.length ≤ c0) :
    Calls Try.prog 3 #[.slice A0 l0.length c0, .int .i64 x] w fun e w' => e = .returned (.bool true) ∧ Below w.heap.size w w' := by
  have HR := Aside0.mk hr0
  have HC := Aside0.mk hc0
  clear hr0 hc0
  by_cases h60 : (l0.length : Int) > 60
  · have b60 : decide ((60 : Int) < (l0.length : Int)) = true := decide_eq_true h60
    go_enter Try.func3, Try.ntmps3
    go_wp2_with (first
      | (go_at_call 10; refine (awake_calls _).mono ?_; rintro e w1 ⟨rfl, hb1⟩))
    go_ret
    exact ⟨rfl, hb1⟩
  · have b60 : decide ((60 : Int) < (l0.length : Int)) = false := decide_eq_false h60
    have hm : (l0.length : Int) ≤ 60 := by omega
    have HM := Aside0.mk hm
    clear h60 hm
    go_enter Try.func3, Try.ntmps3
    go_wp2_with (first
      | (go_at_call 10; refine (awake_calls _).mono ?_; rintro e w1 ⟨rfl, hb1⟩)
      | (go_at_call 11; refine (new_st hb1 x).mono ?_; rintro e w3 ⟨rfl, hs, hb3⟩; clear hb3 hb1))
    have HX : Aside0 ((((bd1000 x).toNat : Nat) : Int) ≤ x ∨ (x < 0 ∧ (bd1000 x).toNat = 0)) := ⟨by unfold bd1000; omega⟩
    generalize (bd1000 x).toNat = rm at hs HX
    generalize w1.heap.size = g at hs ⊢
    go_loopg [7] l0.length (fun k v7 wr => ∃ j : Int, v7 = .int .i64 j ∧ Aside0 (0 ≤ j ∧ j ≤ (l0.length : Int) ∧ (k : Int) + j = (l0.length : Int)) ∧ Aside0 (Sta w wr g (putAll rm (l0.take j.toNat)) rm))
    case atStart => exact ⟨0, rfl, ⟨by omega, by omega, by omega⟩, ⟨hs⟩⟩
    case round =>
      clear hs
      obtain ⟨j, rfl, ⟨hj0, hj1, hj2⟩, ⟨hs⟩⟩ := hrel
      by_cases hj : j < (l0.length : Int)
      · have bj : decide (j < (l0.length : Int)) = true := decide_eq_true hj
        have bj0 : decide (0 ≤ j) = true := decide_eq_true hj0
        obtain ⟨ad0, rfl, r0, r1, r2⟩ := at_T33 HR.out j hj0 hj
        have hm1 := IntWalk.i64_in (j + 1) (by have := HM.out; omega)
        have hst := putAll_step rm l0 j hj0 hj
        have hsm := putL_same (putAll rm (l0.take j.toNat)) rm (rd_T33 l0 j).f0.f0 (rd_T33 l0 j).f0.f1 (rd_T33 l0 j).f1
        have hlL := (putAll_facts rm (l0.take j.toNat)).2
        have hlN := (putAll_facts rm (l0.take (j + 1).toNat)).2
        rw [List.length_take] at hlL hlN
        obtain ⟨N, hN⟩ : ∃ N, N = putAll rm (l0.take (j + 1).toNat) := ⟨_, rfl⟩
        rw [← hN] at hst hlN
        have HE := Aside0.mk hN
        clear hN
        generalize putAll rm (l0.take j.toNat) = L at hs hst hsm hlL
        obtain ⟨c, hc⟩ : ∃ c, c = (putL L rm (rd_T33 l0 j).f0.f0 (rd_T33 l0 j).f0.f1 (rd_T33 l0 j).f1).1 := ⟨_, rfl⟩
        have hput := fun W (hs : Sta w W g L rm) => put_st hs (rd_T33 l0 j).f0.f0 (rd_T33 l0 j).f0.f1 (rd_T33 l0 j).f1
        rw [← hst] at hput hsm
        rw [← hc] at hput hsm
        have HP := Aside0.mk hput
        have HN := Aside0.mk (And.intro (show L.length ≤ 60 by have := HM.out; omega) (show N.length ≤ 60 by have := HM.out; omega))
        have HJ := Aside0.mk (And.intro hj0 (And.intro hj hj2))
        have HSM := Aside0.mk hsm
        have HQ := Aside0.mk (And.intro r0 (And.intro r1 r2))
        have hj0' := eq_true hj0
        have hj' := eq_true hj
        clear hj0 hj1 hj2 hj hst hsm hlL hlN hc hput r0 r1 r2
        go_wp2_with (first
          | (go_at_call 12; refine (walk_st hs).mono ?_; rintro e w7 ⟨v7, rfl, hr7, hs7, hb7⟩; obtain ⟨A1, c1, rfl, hc1, hK⟩ := row_C hr7 (by have := HN.out; omega); have HS7 := Aside0.mk hs7; have HR7 := Aside0.mk hr7; have HC1 := Aside0.mk hc1; clear hs hr7 hs7 hb7 hK hc1)
          | (go_at_call 13; refine (nodes_st HS7.out).mono ?_; rintro e w8 ⟨rfl, rfl⟩))
        have q0 := pw_cell_below HS7.out.b HQ.out.1
        have q1 := pw_cell_below HS7.out.b HQ.out.2.1
        have q2 := pw_cell_below HS7.out.b HQ.out.2.2
        go_region_held3 (fun w' => w'.cell? (ad0.add (j.toNat * 3)) = some (.int .i64 (rd_T33 l0 j).f0.f0) ∧ w'.cell? ⟨(ad0.add (j.toNat * 3)).block, (ad0.add (j.toNat * 3)).off + 1, none⟩ = some (.int .i64 (rd_T33 l0 j).f0.f1) ∧ w'.cell? ⟨(ad0.add (j.toNat * 3)).block, (ad0.add (j.toNat * 3)).off + 2, none⟩ = some (.int .i64 (rd_T33 l0 j).f1))
          (first | go_keep | exact ⟨pw_cell_below hs5.b HQ.out.1, pw_cell_below hs5.b HQ.out.2.1, pw_cell_below hs5.b HQ.out.2.2⟩)
          (first | (go_at_call 14; refine (HP.out _ (HS7.out.drewN 1)).mono ?_; rintro e w5 ⟨rfl, hs5, hk5⟩))
        rename_i hHeld
        clear hHeld q0 q1 q2
        have HS5 := Aside0.mk hs5
        have HK5 := Aside0.mk hk5
        clear hs5 hk5
        have hfa := HS5.out.facts
        have e3 := ents3_length N
        have n1 : decide ((nod N : Int) < ((ents3 N).length : Int)) = false := decide_eq_false (by rw [e3]; omega)
        have m2 := IntWalk.i64_in (2 * ((ents3 N).length : Int)) (by have := HN.out; rw [e3]; omega)
        have hx := HX.out
        have n2 : decide (nod N < (ents3 N).length) = false := decide_eq_false (by rw [e3]; omega)
        have hk : (decide ((0 : Int) < ((ents3 N).length : Int)) = false ∧ decide (0 < (ents3 N).length) = false) ∨ (decide ((0 : Int) < ((ents3 N).length : Int)) = true ∧ decide (0 < (ents3 N).length) = true ∧ decide (2 * ((ents3 N).length : Int) ≤ (nod N : Int)) = false ∧ decide (2 * (ents3 N).length ≤ nod N) = false) := by
          by_cases h : N = []
          · left; rw [h]; exact ⟨rfl, rfl⟩
          · right
            have := hfa.2.2.2.2.2.1 h
            have hne : 0 < N.length := List.length_pos_iff.2 h
            exact ⟨decide_eq_true (by rw [e3]; omega), decide_eq_true (by rw [e3]; omega), decide_eq_false (by rw [e3]; omega), decide_eq_false (by rw [e3]; omega)⟩
        have hxn : (decide (x < (nod N : Int)) = false ∧ True) ∨ (decide (x < (nod N : Int)) = true ∧ decide ((0 : Int) < (nod N : Int)) = false ∧ decide (0 < nod N) = false) := by
          rcases hx with h | ⟨h1, h2⟩
          · exact .inl ⟨decide_eq_false (by omega), trivial⟩
          · right
            exact ⟨decide_eq_true (by omega), decide_eq_false (by omega), decide_eq_false (by omega)⟩
        clear hfa e3 hx
        by_cases hc : c = 0
        · subst hc
          rcases hk with ⟨k0, k0'⟩ | ⟨k0, k0', k1, k1'⟩ <;> rcases hxn with ⟨x0, -⟩ | ⟨x0, x1, x1'⟩
          all_goals (
            go_wp2_with (first
              | (go_at_call 12; refine (walk_st HS5.out).mono ?_; rintro e w10 ⟨v10, rfl, hr10, hs10, hb10⟩; obtain ⟨A2, c2, rfl, hc2, hK2⟩ := row_C hr10 (by have := HN.out; omega); have hK1 := row_K ((HK5.out.trans (Kept.of_below hb10)).row HR7.out) (by have := HN.out; omega); have HS10 := Aside0.mk hs10; clear hr10 hs10 hb10)
              | (go_at_call 15; refine (same_calls hK2 hc2 hK1 HC1.out (by have := HN.out; have := ents3_length N; omega)).mono ?_; rintro e w11 ⟨rr, rfl, -, ⟨n11, rfl⟩⟩; clear hK2 hK1)
              | (go_at_call 13; refine (nodes_st (HS10.out.drewN _)).mono ?_; rintro e w8 ⟨rfl, rfl⟩)
              | (go_at_call 12; refine (walk_st (HS10.out.drewN _)).mono ?_; rintro e w12 ⟨v12, rfl, hr12, hs12, hb12⟩; obtain ⟨A3, c3, rfl, hc3, hK3⟩ := row_C hr12 (by have := HN.out; omega); have HS12 := Aside0.mk hs12; clear hr12 hs12 hb12 hK3 hc3)
              | (go_at_call 13; refine (nodes_st HS12.out).mono ?_; rintro e w8 ⟨rfl, rfl⟩))
            obtain ⟨h0, h1, h2⟩ := HJ.out
            go_roundg (l0.length - j.toNat - 1)
            case measure => omega
            case rel => exact ⟨j + 1, rfl, ⟨by omega, by omega, by omega⟩, ⟨HE.out ▸ HS12.out⟩⟩)
        · obtain rfl := HSM.out hc
          have cc : (c != 0) = true := by simpa using hc
          have cc' : (c == 0) = false := by simpa using hc
          clear hc
          rcases hk with ⟨k0, k0'⟩ | ⟨k0, k0', k1, k1'⟩ <;> rcases hxn with ⟨x0, -⟩ | ⟨x0, x1, x1'⟩
          all_goals (
            go_wp2_with (first
              | (go_at_call 12; refine (walk_st HS5.out).mono ?_; rintro e w10 ⟨v10, rfl, hr10, hs10, hb10⟩; obtain ⟨A2, c2, rfl, hc2, hK2⟩ := row_C hr10 (by have := HN.out; omega); have hK1 := row_K ((HK5.out.trans (Kept.of_below hb10)).row HR7.out) (by have := HN.out; omega); have HS10 := Aside0.mk hs10; clear hr10 hs10 hb10)
              | (go_at_call 15; refine (same_eq hK2 hc2 hK1 HC1.out (by have := HN.out; have := ents3_length N; omega)).mono ?_; rintro e w11 ⟨rfl, ⟨n11, rfl⟩⟩; clear hK2 hK1)
              | (go_at_call 13; refine (nodes_st (HS10.out.drewN _)).mono ?_; rintro e w8 ⟨rfl, rfl⟩)
              | (go_at_call 12; refine (walk_st (HS10.out.drewN _)).mono ?_; rintro e w12 ⟨v12, rfl, hr12, hs12, hb12⟩; obtain ⟨A3, c3, rfl, hc3, hK3⟩ := row_C hr12 (by have := HN.out; omega); have HS12 := Aside0.mk hs12; clear hr12 hs12 hb12 hK3 hc3)
              | (go_at_call 13; refine (nodes_st HS12.out).mono ?_; rintro e w8 ⟨rfl, rfl⟩))
            obtain ⟨h0, h1, h2⟩ := HJ.out
            go_roundg (l0.length - j.toNat - 1)
            case measure => omega
            case rel => exact ⟨j + 1, rfl, ⟨by omega, by omega, by omega⟩, ⟨HE.out ▸ HS12.out⟩⟩)
      · have bj : decide (j < (l0.length : Int)) = false := decide_eq_false hj
        have HS := Aside0.mk hs.b
        clear hs hj0 hj1 hj2 hj
        go_wp2_with (first
          | (go_at_call 16; refine (find_nil 0 _).mono ?_; rintro e w5 ⟨rfl, hb5⟩; have HB5 := Aside0.mk ((below_step HS.out hb5).alloc (by have := (below_step HS.out hb5).size; omega) (Obj.cells #[.int .i64 0, .int .i64 0, .int .i64 0] 33)); clear hb5)
          | (go_at_call 14; refine (put_nil0 _).mono ?_; rintro e w6 ⟨rfl, hb6⟩; have HB6 := Aside0.mk (below_step HB5.out hb6); clear hb6)
          | (go_at_call 17; refine (cut_nil0 _).mono ?_; rintro e w7 ⟨rfl, hb7⟩; have HB7 := Aside0.mk (below_step HB6.out hb7); clear hb7)
          | (go_at_call 12; refine (walk_none _).mono ?_; rintro e w8 ⟨v, rfl, hr, hb8⟩; obtain ⟨A3, c3, rfl, hc3, hK3⟩ := row_C hr (by simp); have HB8 := Aside0.mk (below_step HB7.out hb8); clear hb8 hr hK3 hc3)
          | (go_at_call 13; refine (nodes_nil _).mono ?_; rintro e w9 ⟨rfl, rfl⟩))
        go_ret
        exact ⟨rfl, HB8.out⟩
end Go.Proofs.Ytjffikckddijmaa
