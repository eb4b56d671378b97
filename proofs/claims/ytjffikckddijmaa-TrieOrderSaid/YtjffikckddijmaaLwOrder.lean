/-
  Chapter 7: the law TrieOrder, walked.
-/
import Derived.Test.YtjffikckddijmaaTriTwo
namespace Go.Proofs.Ytjffikckddijmaa
open Go.RowKit Go.Proofs.YtjffikckddijmaaW.PrintWords Go.Proofs.YtjffikckddijmaaW.PrintLast Go.Proofs.YtjffikckddijmaaW.PrintMore
open All All.BM
attribute [local go_sem] max2_int min2_int max_two min_two max_three min_three max_four min_four
set_option linter.unusedVariables false
set_option linter.unusedSimpArgs false
attribute [local go_sem high] eqA31 eqA33
def Clean (l0 : List S33) (l1 : List S31) (i : Int) : Prop := ∀ a, 0 ≤ a → a < i → (∀ t, 0 ≤ t → t < a → eqP (rd_T33 l0 a).f0 (rd_T33 l0 t).f0 = false) ∧ (∀ t, 0 ≤ t → t < (l1.length : Int) → eqP (rd_T33 l0 a).f0 (rd_T31 l1 t) = false)
theorem rd31_some (l : List S31) (j : Int) (h0 : 0 ≤ j) (h1 : j < l.length) : l[j.toNat]? = some (rd_T31 l j) := by
  have hj : j.toNat < l.length := by omega
  rw [rd_T31, List.getD_eq_getElem?_getD, List.getElem?_eq_getElem hj]; rfl
theorem eqP_symm {x y : S31} (h : eqP x y = false) : eqP y x = false := by
  rw [eqP] at h ⊢
  rw [Bool.and_eq_false_iff] at h ⊢
  rcases h with h | h
  · left; simp at h ⊢; exact fun e => h e.symm
  · right; simp at h ⊢; exact fun e => h e.symm
theorem clean_law {l0 : List S33} {l1 : List S31} (h : Clean l0 l1 (l0.length : Int)) : l0.Pairwise (fun a b => eqP a.f0 b.f0 = false) ∧ ∀ e ∈ l0, ∀ x ∈ l1, eqP e.f0 x = false := by
  constructor
  · rw [List.pairwise_iff_getElem]
    intro i j hi hj hij
    have h1 := (h (j : Int) (by omega) (by omega)).1 (i : Int) (by omega) (by omega)
    have e1 := rd_some l0 (j : Int) (by omega) (by omega)
    have e2 := rd_some l0 (i : Int) (by omega) (by omega)
    simp only [Int.toNat_natCast] at e1 e2
    rw [List.getElem?_eq_getElem hj] at e1
    rw [List.getElem?_eq_getElem hi] at e2
    rw [Option.some.inj e1, Option.some.inj e2]
    exact eqP_symm h1
  · intro e he x hx
    obtain ⟨i, hi, rfl⟩ := List.getElem_of_mem he
    obtain ⟨j, hj, rfl⟩ := List.getElem_of_mem hx
    have h1 := (h (i : Int) (by omega) (by omega)).2 (j : Int) (by omega) (by omega)
    have e1 := rd_some l0 (i : Int) (by omega) (by omega)
    have e2 := rd31_some l1 (j : Int) (by omega) (by omega)
    simp only [Int.toNat_natCast] at e1 e2
    rw [List.getElem?_eq_getElem hi] at e1
    rw [List.getElem?_eq_getElem hj] at e2
    rw [Option.some.inj e1, Option.some.inj e2]
    exact h1
set_option maxHeartbeats 4000000 in
set_option maxRecDepth 100000 in
theorem trieOrder_calls (A0 : Option Addr) (c0 : Nat) (l0 : List S33) (A1 : Option Addr) (c1 : Nat) (l1 : List S31) (w : World) (hr0 : Kd.C k33 w A0 l0.length l0) (hc0 : l0.length ≤ c0) (hr1 : Kd.C k31 w A1 l1.length l1) (hc1 : l1.length ≤ c1) :
    Calls Try.prog 9 #[.slice A0 l0.length c0, .slice A1 l1.length c1] w fun e w' => e = .returned (.bool true) ∧ Below w.heap.size w w' := by
  have HR := Aside0.mk hr0
  have HC := Aside0.mk hc0
  have HR1 := Aside0.mk hr1
  have HC1 := Aside0.mk hc1
  clear hr0 hc0 hr1 hc1
  by_cases h30 : (l0.length : Int) > 30
  · have b30 : decide ((30 : Int) < (l0.length : Int)) = true := decide_eq_true h30
    go_enter Try.func9, Try.ntmps9
    go_wp2_with (first
      | (go_at_call 10; refine (awake_calls _).mono ?_; rintro e w1 ⟨rfl, hb1⟩))
    go_ret
    exact ⟨rfl, hb1⟩
  by_cases g30 : (l1.length : Int) > 30
  · have b30 : decide ((30 : Int) < (l0.length : Int)) = false := decide_eq_false h30
    have b31 : decide ((30 : Int) < (l1.length : Int)) = true := decide_eq_true g30
    go_enter Try.func9, Try.ntmps9
    go_wp2_with (first
      | (go_at_call 10; refine (awake_calls _).mono ?_; rintro e w1 ⟨rfl, hb1⟩))
    go_ret
    exact ⟨rfl, hb1⟩
  have b30 : decide ((30 : Int) < (l0.length : Int)) = false := decide_eq_false h30
  have b31 : decide ((30 : Int) < (l1.length : Int)) = false := decide_eq_false g30
  have HM := Aside0.mk (And.intro (show (l0.length : Int) ≤ 30 by omega) (show (l1.length : Int) ≤ 30 by omega))
  clear h30 g30
  go_enter Try.func9, Try.ntmps9
  go_wp2_with (first
    | (go_at_call 10; refine (awake_calls _).mono ?_; rintro e w1 ⟨rfl, hb1⟩))
  have HB1 := Aside0.mk hb1
  have HK0 := Aside0.mk (Kd.C_below HR.out hb1)
  have HK1 := Aside0.mk (Kd.C_below HR1.out hb1)
  clear hb1
  go_loopg [6] l0.length (fun k v6 wr => ∃ i : Int, v6 = .int .i64 i ∧ Aside0 (0 ≤ i ∧ i ≤ (l0.length : Int) ∧ (k : Int) + i = (l0.length : Int) ∧ Clean l0 l1 i) ∧ Aside0 (Drawn0 w1 wr))
  case atStart => exact ⟨0, rfl, ⟨by omega, by omega, by omega, fun a h0 h1 => by omega⟩, ⟨Drawn0.refl _⟩⟩
  case round =>
    obtain ⟨i, rfl, ⟨hi0, hi1, hi2, hcl⟩, ⟨⟨nn, rfl⟩⟩⟩ := hrel
    by_cases hi : i < (l0.length : Int)
    · have bi : decide (i < (l0.length : Int)) = true := decide_eq_true hi
      have bi0 : decide (0 ≤ i) = true := decide_eq_true hi0
      obtain ⟨ad0, rfl, r0, r1, r2⟩ := at_T33 HK0.out i hi0 hi
      have HJ := Aside0.mk (And.intro hi0 (And.intro hi (And.intro hi2 hcl)))
      have hi0' := eq_true hi0
      have hi' := eq_true hi
      clear hi0 hi1 hi2 hi hcl r2
      go_wp2
      go_loopg [7] i.toNat (fun k v7 wr => ∃ m : Int, v7 = .int .i64 m ∧ Aside0 (0 ≤ m ∧ m ≤ i ∧ (k : Int) + m = i ∧ ∀ t, 0 ≤ t → t < m → eqP (rd_T33 l0 i).f0 (rd_T33 l0 t).f0 = false) ∧ Aside0 (Drawn0 w1 wr))
      case atStart => exact ⟨0, rfl, ⟨by omega, HJ.out.1, by have := HJ.out.1; omega, fun t h0 h1 => by omega⟩, ⟨⟨_, rfl⟩⟩⟩
      case round =>
        obtain ⟨m, rfl, ⟨hm0, hm1, hm2, hml⟩, ⟨⟨n2, rfl⟩⟩⟩ := hrel
        by_cases hm : m < i
        · have bm : decide (m < i) = true := decide_eq_true hm
          have hml1 : m < (l0.length : Int) := by have := HJ.out.2.1; omega
          have bm0 : decide (0 ≤ m) = true := decide_eq_true hm0
          have bm1 : decide (m < (l0.length : Int)) = true := decide_eq_true hml1
          obtain ⟨ad0', hae, s0, s1, s2⟩ := at_T33 HK0.out m hm0 hml1
          cases hae
          have hw1 := IntWalk.i64_in (m + 1) (by have := HM.out; omega)
          have HJM := Aside0.mk (And.intro hm0 (And.intro hm (And.intro hm2 hml)))
          have hm0' := eq_true hm0
          have hml1' := eq_true hml1
          clear hm0 hm1 hm2 hml hm s2 hml1
          cases hq : ((rd_T33 l0 i).f0.f0 == (rd_T33 l0 m).f0.f0 && ((rd_T33 l0 i).f0.f1 == (rd_T33 l0 m).f0.f1))
          · have HQ := Aside0.mk hq
            go_wp2
            repeat (go_quiet (fail); try go_wp2)
            obtain ⟨h0, h1, h2, h3⟩ := HJM.out
            go_roundg (i - m - 1).toNat
            case measure => omega
            case rel =>
              refine ⟨m + 1, rfl, ⟨by omega, by omega, by omega, fun t ht0 ht1 => ?_⟩, ⟨⟨_, rfl⟩⟩⟩
              by_cases htm : t < m
              · exact h3 t ht0 htm
              · obtain rfl : t = m := by omega
                exact HQ.out
          · go_wp2
            repeat (go_quiet (fail); try go_wp2)
            go_ret
            exact ⟨rfl, pw_below_drewN (pw_below_drewN HB1.out _) _⟩
        · have bm : decide (m < i) = false := decide_eq_false hm
          have HL := Aside0.mk (show ∀ t, 0 ≤ t → t < i → eqP (rd_T33 l0 i).f0 (rd_T33 l0 t).f0 = false from fun t h0 h1 => hml t h0 (by omega))
          clear hm0 hm1 hm2 hml hm
          go_wp2
          go_loopg [8] l1.length (fun k v8 wr => ∃ m : Int, v8 = .int .i64 m ∧ Aside0 (0 ≤ m ∧ m ≤ (l1.length : Int) ∧ (k : Int) + m = (l1.length : Int) ∧ ∀ t, 0 ≤ t → t < m → eqP (rd_T33 l0 i).f0 (rd_T31 l1 t) = false) ∧ Aside0 (Drawn0 w1 wr))
          case atStart => exact ⟨0, rfl, ⟨by omega, by omega, by omega, fun t h0 h1 => by omega⟩, ⟨⟨_, rfl⟩⟩⟩
          case round =>
            obtain ⟨m, rfl, ⟨hm0, hm1, hm2, hml⟩, ⟨⟨n3, rfl⟩⟩⟩ := hrel
            by_cases hm : m < (l1.length : Int)
            · have bm2 : decide (m < (l1.length : Int)) = true := decide_eq_true hm
              have bm0 : decide (0 ≤ m) = true := decide_eq_true hm0
              obtain ⟨ad1, rfl, s0, s1⟩ := at_T31 HK1.out m hm0 hm
              have hw1 := IntWalk.i64_in (m + 1) (by have := HM.out; omega)
              have HJM := Aside0.mk (And.intro hm0 (And.intro hm (And.intro hm2 hml)))
              have hm0' := eq_true hm0
              have hml1' := eq_true hm
              clear hm0 hm1 hm2 hml hm
              cases hq : ((rd_T33 l0 i).f0.f0 == (rd_T31 l1 m).f0 && ((rd_T33 l0 i).f0.f1 == (rd_T31 l1 m).f1))
              · have HQ := Aside0.mk hq
                go_wp2
                repeat (go_quiet (fail); try go_wp2)
                obtain ⟨h0, h1, h2, h3⟩ := HJM.out
                go_roundg (l1.length - m.toNat - 1)
                case measure => omega
                case rel =>
                  refine ⟨m + 1, rfl, ⟨by omega, by omega, by omega, fun t ht0 ht1 => ?_⟩, ⟨⟨_, rfl⟩⟩⟩
                  by_cases htm : t < m
                  · exact h3 t ht0 htm
                  · obtain rfl : t = m := by omega
                    exact HQ.out
              · go_wp2
                repeat (go_quiet (fail); try go_wp2)
                go_ret
                exact ⟨rfl, pw_below_drewN (pw_below_drewN HB1.out _) _⟩
            · have bm2 : decide (m < (l1.length : Int)) = false := decide_eq_false hm
              have HL1 := Aside0.mk (show ∀ t, 0 ≤ t → t < (l1.length : Int) → eqP (rd_T33 l0 i).f0 (rd_T31 l1 t) = false from fun t h0 h1 => hml t h0 (by omega))
              have hw1 := IntWalk.i64_in (i + 1) (by have := HM.out; have := HJ.out; omega)
              clear hm0 hm1 hm2 hml hm
              go_wp2
              obtain ⟨h0, h1, h2, h3⟩ := HJ.out
              go_roundg (l0.length - i.toNat - 1)
              case measure => omega
              case rel =>
                refine ⟨i + 1, rfl, ⟨by omega, by omega, by omega, fun a ha0 ha1 => ?_⟩, ⟨⟨_, rfl⟩⟩⟩
                by_cases hai : a < i
                · exact h3 a ha0 hai
                · obtain rfl : a = i := by omega
                  exact ⟨HL.out, HL1.out⟩
    · have bi : decide (i < (l0.length : Int)) = false := decide_eq_false hi
      have HCL := Aside0.mk (clean_law (show Clean l0 l1 (l0.length : Int) from fun a h0 h1 => hcl a h0 (by omega)))
      have hbC := pw_below_drewN HB1.out nn
      clear hi0 hi1 hi2 hi hcl
      generalize w1.drewN nn = wC at hbC
      go_wp2_with (first
        | (go_at_call 11; refine (new_st hbC 1000).mono ?_; rintro e w3 ⟨rfl, hs, -⟩; have HS := Aside0.mk (show Sta w w3 wC.heap.size [] 1000 from hs); clear hs hbC)
        | (go_at_call 11; refine HS.out.two.mono ?_; rintro e w4 ⟨rfl, ht⟩; clear HS))
      generalize wC.heap.size = gt at ht ⊢
      generalize w3.heap.size = gu at ht ⊢
      go_loopg [11] l1.length (fun k v11 wr => ∃ j : Int, v11 = .int .i64 j ∧ Aside0 (0 ≤ j ∧ j ≤ (l1.length : Int) ∧ (k : Int) + j = (l1.length : Int)) ∧ Aside0 (Two w wr gt gu [] (puts [] ((l1.map one1).take j.toNat))))
      case atStart => exact ⟨0, rfl, ⟨by omega, by omega, by omega⟩, ⟨ht⟩⟩
      case round =>
        clear ht
        obtain ⟨j, rfl, ⟨hj0, hj1, hj2⟩, ⟨ht⟩⟩ := hrel
        by_cases hj : j < (l1.length : Int)
        · have bj : decide (j < (l1.length : Int)) = true := decide_eq_true hj
          have bj0 : decide (0 ≤ j) = true := decide_eq_true hj0
          obtain ⟨ad1, rfl, r0, r1⟩ := at_T31 HR1.out j hj0 hj
          have q0 := pw_cell_below ht.b r0
          have q1 := pw_cell_below ht.b r1
          have hm1 := IntWalk.i64_in (j + 1) (by have := HM.out; omega)
          have hst : puts [] ((l1.map one1).take (j + 1).toNat) = put1 1000 (puts [] ((l1.map one1).take j.toNat)) ⟨rd_T31 l1 j, 1⟩ := by
            have e : (j + 1).toNat = j.toNat + 1 := by omega
            rw [e]
            exact foldl_take _ _ _ _ _ (by rw [List.getElem?_map, rd31_some l1 j hj0 hj]; rfl)
          have HJ := Aside0.mk (And.intro hj0 (And.intro hj (And.intro hj2 hst)))
          have HT := Aside0.mk ht
          have hj0' := eq_true hj0
          have hj' := eq_true hj
          clear hj0 hj1 hj2 hj hst ht r0 r1
          go_wp2_with (first
            | (go_at_call 14; refine (HT.out.putU ⟨rd_T31 l1 j, 1⟩).mono ?_; rintro e w5 ⟨⟨c5, rfl⟩, ht5⟩; have HT5 := Aside0.mk ht5; clear ht5))
          obtain ⟨h0, h1, h2, h3⟩ := HJ.out
          go_roundg (l1.length - j.toNat - 1)
          case measure => omega
          case rel => exact ⟨j + 1, rfl, ⟨by omega, by omega, by omega⟩, ⟨by rw [h3]; exact HT5.out⟩⟩
        · have bj : decide (j < (l1.length : Int)) = false := decide_eq_false hj
          have ej : (l1.map one1).take j.toNat = l1.map one1 := List.take_of_length_le (by rw [List.length_map]; omega)
          rw [ej] at ht
          have HT := Aside0.mk ht
          clear hj0 hj1 hj2 hj ej ht
          go_wp2
          go_loopg [12] l0.length (fun k v12 wr => ∃ j : Int, v12 = .int .i64 j ∧ Aside0 (0 ≤ j ∧ j ≤ (l0.length : Int) ∧ (k : Int) + j = (l0.length : Int)) ∧ Aside0 (Two w wr gt gu (puts [] (l0.take j.toNat)) (puts (puts [] (l1.map one1)) (l0.reverse.take j.toNat))))
          case atStart => exact ⟨0, rfl, ⟨by omega, by omega, by omega⟩, ⟨HT.out⟩⟩
          case round =>
            clear HT
            obtain ⟨j, rfl, ⟨hj0, hj1, hj2⟩, ⟨ht⟩⟩ := hrel
            by_cases hj : j < (l0.length : Int)
            · have bj : decide (j < (l0.length : Int)) = true := decide_eq_true hj
              have bj0 : decide (0 ≤ j) = true := decide_eq_true hj0
              obtain ⟨n1, hn1⟩ : ∃ n, n = (l0.length : Int) - 1 := ⟨_, rfl⟩
              obtain ⟨k, hk⟩ : ∃ k, k = n1 - j := ⟨_, rfl⟩
              have hk0 : 0 ≤ k := by omega
              have hk1 : k < (l0.length : Int) := by omega
              have hw1 : IntKind.i64.wrap ((l0.length : Int) - 1) = n1 := (IntWalk.i64_in _ (by have := HM.out; omega)).trans hn1.symm
              have hw2 : IntKind.i64.wrap (n1 - j) = k := (IntWalk.i64_in _ (by have := HM.out; omega)).trans hk.symm
              have hm1 := IntWalk.i64_in (j + 1) (by have := HM.out; omega)
              have bk0 : decide (0 ≤ k) = true := decide_eq_true hk0
              have bk1 : decide (k < (l0.length : Int)) = true := decide_eq_true hk1
              obtain ⟨ad0, rfl, r0, r1, r2⟩ := at_T33 HR.out j hj0 hj
              obtain ⟨ad0', hae, s0, s1, s2⟩ := at_T33 HR.out k hk0 hk1
              cases hae
              have q0 := pw_cell_below ht.b r0
              have q1 := pw_cell_below ht.b r1
              have q2 := pw_cell_below ht.b r2
              have hst : puts [] (l0.take (j + 1).toNat) = put1 1000 (puts [] (l0.take j.toNat)) (rd_T33 l0 j) := by
                have e : (j + 1).toNat = j.toNat + 1 := by omega
                rw [e]
                exact foldl_take _ _ _ _ _ (rd_some l0 j hj0 hj)
              have hsu : puts (puts [] (l1.map one1)) (l0.reverse.take (j + 1).toNat) = put1 1000 (puts (puts [] (l1.map one1)) (l0.reverse.take j.toNat)) (rd_T33 l0 k) := by
                have e : (j + 1).toNat = j.toNat + 1 := by omega
                rw [e]
                refine foldl_take _ _ _ _ _ ?_
                rw [List.getElem?_reverse (by omega)]
                have e2 : l0.length - 1 - j.toNat = k.toNat := by omega
                rw [e2]
                exact rd_some l0 k hk0 hk1
              have HJ := Aside0.mk (And.intro hj0 (And.intro hj (And.intro hj2 (And.intro hst hsu))))
              have HT := Aside0.mk (ht.drewN 1)
              have HQ := Aside0.mk (And.intro r0 (And.intro r1 r2))
              have HS := Aside0.mk (And.intro s0 (And.intro s1 s2))
              have hj0' := eq_true hj0
              have hj' := eq_true hj
              have hk0' := eq_true hk0
              have hk1' := eq_true hk1
              clear hj0 hj1 hj2 hj hst hsu ht r0 r1 r2 s0 s1 s2 hn1 hk hk0 hk1
              go_wp2
              go_region_held3 (fun w' => w'.cell? (ad0.add (j.toNat * 3)) = some (.int .i64 (rd_T33 l0 j).f0.f0) ∧ w'.cell? ⟨(ad0.add (j.toNat * 3)).block, (ad0.add (j.toNat * 3)).off + 1, none⟩ = some (.int .i64 (rd_T33 l0 j).f0.f1) ∧ w'.cell? ⟨(ad0.add (j.toNat * 3)).block, (ad0.add (j.toNat * 3)).off + 2, none⟩ = some (.int .i64 (rd_T33 l0 j).f1))
                (first | go_keep | exact ⟨pw_cell_below ht5.b HQ.out.1, pw_cell_below ht5.b HQ.out.2.1, pw_cell_below ht5.b HQ.out.2.2⟩)
                (first | (go_at_call 14; refine (HT.out.putT (rd_T33 l0 j)).mono ?_; rintro e w5 ⟨⟨c5, rfl⟩, ht5⟩))
              rename_i hHeld
              clear hHeld q0 q1 q2 HT
              have q0 := pw_cell_below ht5.b HS.out.1
              have q1 := pw_cell_below ht5.b HS.out.2.1
              have q2 := pw_cell_below ht5.b HS.out.2.2
              have HT5 := Aside0.mk (ht5.drewN 1)
              clear ht5
              go_wp2
              go_region_held3 (fun w' => w'.cell? (ad0.add (k.toNat * 3)) = some (.int .i64 (rd_T33 l0 k).f0.f0) ∧ w'.cell? ⟨(ad0.add (k.toNat * 3)).block, (ad0.add (k.toNat * 3)).off + 1, none⟩ = some (.int .i64 (rd_T33 l0 k).f0.f1) ∧ w'.cell? ⟨(ad0.add (k.toNat * 3)).block, (ad0.add (k.toNat * 3)).off + 2, none⟩ = some (.int .i64 (rd_T33 l0 k).f1))
                (first | go_keep | exact ⟨pw_cell_below ht6.b HS.out.1, pw_cell_below ht6.b HS.out.2.1, pw_cell_below ht6.b HS.out.2.2⟩)
                (first | (go_at_call 14; refine (HT5.out.putU (rd_T33 l0 k)).mono ?_; rintro e w6 ⟨⟨c6, rfl⟩, ht6⟩))
              rename_i hHeld
              clear hHeld q0 q1 q2 HT5
              have HT6 := Aside0.mk ht6
              clear ht6
              go_wp2
              obtain ⟨h0, h1, h2, h3, h4⟩ := HJ.out
              go_roundg (l0.length - j.toNat - 1)
              case measure => omega
              case rel => exact ⟨j + 1, rfl, ⟨by omega, by omega, by omega⟩, ⟨by rw [h3, h4]; exact HT6.out⟩⟩
            · have bj : decide (j < (l0.length : Int)) = false := decide_eq_false hj
              have ej : l0.take j.toNat = l0 := List.take_of_length_le (by omega)
              have er : l0.reverse.take j.toNat = l0.reverse := List.take_of_length_le (by rw [List.length_reverse]; omega)
              rw [ej, er] at ht
              have HT := Aside0.mk ht
              clear hj0 hj1 hj2 hj ej er ht
              go_wp2
              go_loopg [13] l1.length (fun k v13 wr => ∃ j : Int, v13 = .int .i64 j ∧ Aside0 (0 ≤ j ∧ j ≤ (l1.length : Int) ∧ (k : Int) + j = (l1.length : Int)) ∧ Aside0 (Two w wr gt gu (puts [] l0) (cuts (puts (puts [] (l1.map one1)) l0.reverse) (l1.take j.toNat))))
              case atStart => exact ⟨0, rfl, ⟨by omega, by omega, by omega⟩, ⟨HT.out⟩⟩
              case round =>
                clear HT
                obtain ⟨j, rfl, ⟨hj0, hj1, hj2⟩, ⟨ht⟩⟩ := hrel
                by_cases hj : j < (l1.length : Int)
                · have bj : decide (j < (l1.length : Int)) = true := decide_eq_true hj
                  have bj0 : decide (0 ≤ j) = true := decide_eq_true hj0
                  obtain ⟨ad1, rfl, r0, r1⟩ := at_T31 HR1.out j hj0 hj
                  have q0 := pw_cell_below ht.b r0
                  have q1 := pw_cell_below ht.b r1
                  have hm1 := IntWalk.i64_in (j + 1) (by have := HM.out; omega)
                  have hst : cuts (puts (puts [] (l1.map one1)) l0.reverse) (l1.take (j + 1).toNat) = cut1 (cuts (puts (puts [] (l1.map one1)) l0.reverse) (l1.take j.toNat)) (rd_T31 l1 j) := by
                    have e : (j + 1).toNat = j.toNat + 1 := by omega
                    rw [e]
                    exact foldl_take _ _ _ _ _ (rd31_some l1 j hj0 hj)
                  have HJ := Aside0.mk (And.intro hj0 (And.intro hj (And.intro hj2 hst)))
                  have HT := Aside0.mk ht
                  have hj0' := eq_true hj0
                  have hj' := eq_true hj
                  clear hj0 hj1 hj2 hj hst ht r0 r1
                  go_wp2_with (first
                    | (go_at_call 17; refine (HT.out.cutU (rd_T31 l1 j)).mono ?_; rintro e w5 ⟨⟨c5, rfl⟩, ht5⟩; have HT5 := Aside0.mk ht5; clear ht5))
                  obtain ⟨h0, h1, h2, h3⟩ := HJ.out
                  go_roundg (l1.length - j.toNat - 1)
                  case measure => omega
                  case rel => exact ⟨j + 1, rfl, ⟨by omega, by omega, by omega⟩, ⟨by rw [h3]; exact HT5.out⟩⟩
                · have bj : decide (j < (l1.length : Int)) = false := decide_eq_false hj
                  have ej : l1.take j.toNat = l1 := List.take_of_length_le (by omega)
                  have hm := HM.out
                  rw [ej, order_eq (by omega) (by omega) HCL.out.1 HCL.out.2] at ht
                  have hlen : (puts [] l0).length ≤ 60 := by
                    have := (puts_facts l0 [] List.Pairwise.nil).2
                    simp only [List.length_nil] at this
                    omega
                  generalize puts [] l0 = M at ht hlen
                  have HN := Aside0.mk hlen
                  have HT := Aside0.mk ht
                  clear hj0 hj1 hj2 hj ej ht hm hlen
                  go_wp2_with (first
                    | (go_at_call 12; refine (walk_st HT.out.t).mono ?_; rintro e w7 ⟨v7, rfl, hr7, -, hb7⟩; obtain ⟨A7, c7, rfl, hc7, hK7⟩ := row_C hr7 (by have := HN.out; omega); have HR7 := Aside0.mk hr7; have HC7 := Aside0.mk hc7; have HT7 := Aside0.mk (HT.out.below hb7); clear hr7 hc7 hK7 hb7 HT)
                    | (go_at_call 12; refine (walk_st HT7.out.u).mono ?_; rintro e w8 ⟨v8, rfl, hr8, -, hb8⟩; obtain ⟨A8, c8, rfl, hc8, hK8⟩ := row_C hr8 (by have := HN.out; omega); have hK7 := row_K ((Kept.of_below hb8).row HR7.out) (by have := HN.out; omega); have HT8 := Aside0.mk (HT7.out.below hb8); clear hr8 hb8)
                    | (go_at_call 15; refine (same_eq hK7 HC7.out hK8 hc8 (by have := HN.out; have := ents3_length M; omega)).mono ?_; rintro e w9 ⟨rfl, ⟨n9, rfl⟩⟩; clear hK7 hK8)
                    | (go_at_call 13; refine (nodes_st (HT8.out.drewN _).t).mono ?_; rintro e w10 ⟨rfl, rfl⟩)
                    | (go_at_call 13; refine (nodes_st (HT8.out.drewN _).u).mono ?_; rintro e w10 ⟨rfl, rfl⟩))
                  go_ret
                  exact ⟨by first | rfl | simp, (HT8.out.drewN _).b⟩
end Go.Proofs.Ytjffikckddijmaa
