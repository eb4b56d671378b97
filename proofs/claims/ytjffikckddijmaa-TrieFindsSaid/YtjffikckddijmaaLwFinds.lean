/-
  Chapter 7: the law TrieFinds, walked.
-/
import Derived.Test.YtjffikckddijmaaTriJ
namespace Go.Proofs.Ytjffikckddijmaa
open Go.RowKit Go.Proofs.YtjffikckddijmaaW.PrintWords Go.Proofs.YtjffikckddijmaaW.PrintLast Go.Proofs.YtjffikckddijmaaW.PrintMore
open All All.BM
attribute [local go_sem] max2_int min2_int max_two min_two max_three min_three max_four min_four
set_option linter.unusedVariables false
set_option linter.unusedSimpArgs false
attribute [local go_sem high] eqA31 eqA33
theorem find_one (A p : K) (v : Int) : ∃ r, FindSpec A [(p, v)] r ∧ r.isSome = p.isPrefixOf A := by
  cases h : p.isPrefixOf A
  · refine ⟨none, fun f hf hp => ?_, rfl⟩
    simp at hf
    subst hf
    rw [List.isPrefixOf_iff_prefix.2 hp] at h
    cases h
  · refine ⟨some (p, v), ⟨by simp, List.isPrefixOf_iff_prefix.1 h, fun f hf _ => ?_⟩, rfl⟩
    simp at hf
    subst hf
    exact Nat.le_refl _
theorem put_one {p : K} (hp : p.length ≤ 32) (v : Int) : putL [] 1 (ad p : Int) (p.length : Int) v = (0, [(p, v)]) := by
  have h1 : nod (insL [] p v) ≤ 1 := by
    have h := nod_le (L := [(p, v)]) (by simp [Srt])
    obtain ⟨t, ht, he⟩ := tree_of (L := [(p, v)]) (by simp [Srt])
    have := (T.size_lt ht).2 (fun e => by rw [e] at he; simp [T.ents] at he)
    rw [T.size_nod ht, he] at this
    simp at this
    show nod [(p, v)] ≤ 1
    omega
  unfold putL
  rw [if_pos (key_isPre hp), kOf_ad hp, if_pos h1]
  rfl
def cF (A : K) (r : Option (K × Int)) (y : S33) : Bool := is3 (bestA r) (bestN r) (bestV r) y && (kOf y.f0.f0 y.f0.f1).isPrefixOf A
theorem cF_ent {A : K} {r : Option (K × Int)} {e : K × Int} (he : e.1.length ≤ 32) : cF A r (entS e) = (((((ad e.1 : Int) == bestA r) && ((e.1.length : Int) == bestN r)) && (e.2 == bestV r)) && e.1.isPrefixOf A) := by
  unfold cF entS is3
  simp only [kOf_ad he]
theorem finds_end {A : K} {M : Es} {r : Option (K × Int)} (h : FindSpec A M r) (hM : ∀ e ∈ M, e.1.length ≤ 32) : (ents3 M).any (cF A r) = r.isSome := by
  cases r with
  | none =>
    refine List.any_eq_false.2 fun y hy => ?_
    obtain ⟨e, he, rfl⟩ := List.mem_map.1 hy
    rw [cF_ent (hM e he)]
    have : e.1.isPrefixOf A = false := by
      cases hb : e.1.isPrefixOf A
      · rfl
      · exact absurd (List.isPrefixOf_iff_prefix.1 hb) (h e he)
    rw [this]
    simp
  | some f =>
    refine List.any_eq_true.2 ⟨entS f, List.mem_map.2 ⟨f, h.1, rfl⟩, ?_⟩
    rw [cF_ent (hM f h.1), List.isPrefixOf_iff_prefix.2 h.2.1]
    simp [bestA, bestN, bestV]
set_option maxHeartbeats 4000000 in
set_option maxRecDepth 100000 in
theorem trieFinds_calls (A0 : Option Addr) (c0 : Nat) (l0 : List S33) (x : Int) (w : World) (hr0 : Kd.C k33 w A0 l0.length l0) (hc0 : l0.length ≤ c0) :
    Calls Try.prog 5 #[.slice A0 l0.length c0, .int .i64 x] w fun e w' => e = .returned (.bool true) ∧ Below w.heap.size w w' := by
  have HR := Aside0.mk hr0
  have HC := Aside0.mk hc0
  clear hr0 hc0
  by_cases h60 : (l0.length : Int) > 60
  · have b60 : decide ((60 : Int) < (l0.length : Int)) = true := decide_eq_true h60
    go_enter Try.func5, Try.ntmps5
    go_wp2_with (first
      | (go_at_call 10; refine (awake_calls _).mono ?_; rintro e w1 ⟨rfl, hb1⟩))
    go_ret
    exact ⟨rfl, hb1⟩
  · have b60 : decide ((60 : Int) < (l0.length : Int)) = false := decide_eq_false h60
    have hm : (l0.length : Int) ≤ 60 := by omega
    have HM := Aside0.mk hm
    clear h60 hm
    go_enter Try.func5, Try.ntmps5
    go_wp2_with (first
      | (go_at_call 10; refine (awake_calls _).mono ?_; rintro e w1 ⟨rfl, hb1⟩)
      | (go_at_call 11; refine (new_st hb1 1000).mono ?_; rintro e w3 ⟨rfl, hs, hb3⟩; clear hb3 hb1))
    replace hs : Sta w w3 w1.heap.size [] 1000 := hs
    generalize w1.heap.size = g at hs ⊢
    go_loopg [7] l0.length (fun k v7 wr => ∃ j : Int, v7 = .int .i64 j ∧ Aside0 (0 ≤ j ∧ j ≤ (l0.length : Int) ∧ (k : Int) + j = (l0.length : Int)) ∧ Aside0 (Sta w wr g (putAll 1000 (l0.take j.toNat)) 1000))
    case atStart => exact ⟨0, rfl, ⟨by omega, by omega, by omega⟩, ⟨hs⟩⟩
    case round =>
      clear hs
      obtain ⟨j, rfl, ⟨hj0, hj1, hj2⟩, ⟨hs⟩⟩ := hrel
      by_cases hj : j < (l0.length : Int)
      · have bj : decide (j < (l0.length : Int)) = true := decide_eq_true hj
        have bj0 : decide (0 ≤ j) = true := decide_eq_true hj0
        obtain ⟨ad0, rfl, r0, r1, r2⟩ := at_T33 HR.out j hj0 hj
        have q0 := pw_cell_below hs.b r0
        have q1 := pw_cell_below hs.b r1
        have q2 := pw_cell_below hs.b r2
        have hput := Aside0.mk (putAll_calls j hj0 hj (hs.drewN 1))
        have hm1 := IntWalk.i64_in (j + 1) (by have := HM.out; omega)
        have HJ := Aside0.mk (And.intro hj0 (And.intro hj hj2))
        have hj0' := eq_true hj0
        have hj' := eq_true hj
        clear hs hj0 hj1 hj2 hj
        go_wp2
        go_region_held3 (fun w' => w'.cell? (ad0.add (j.toNat * 3)) = some (.int .i64 (rd_T33 l0 j).f0.f0) ∧ w'.cell? ⟨(ad0.add (j.toNat * 3)).block, (ad0.add (j.toNat * 3)).off + 1, none⟩ = some (.int .i64 (rd_T33 l0 j).f0.f1) ∧ w'.cell? ⟨(ad0.add (j.toNat * 3)).block, (ad0.add (j.toNat * 3)).off + 2, none⟩ = some (.int .i64 (rd_T33 l0 j).f1))
          (first | go_keep | exact ⟨pw_cell_below hs5.b (by assumption), pw_cell_below hs5.b (by assumption), pw_cell_below hs5.b (by assumption)⟩)
          (first | (go_at_call 14; refine hput.out.mono ?_; rintro e w5 ⟨⟨c5, rfl⟩, hs5, hk5⟩))
        go_wp2
        obtain ⟨h0, h1, h2⟩ := HJ.out
        go_roundg (l0.length - j.toNat - 1)
        case measure => omega
        case rel => exact ⟨j + 1, rfl, ⟨by omega, by omega, by omega⟩, ⟨hs5⟩⟩
      · have bj : decide (j < (l0.length : Int)) = false := decide_eq_false hj
        have ej : l0.take j.toNat = l0 := List.take_of_length_le (by omega)
        rw [ej] at hs
        obtain ⟨hL1, hL2⟩ := putAll_facts 1000 l0
        generalize putAll 1000 l0 = M at hs hL1 hL2
        have hlM : M.length ≤ 60 := by have := HM.out; omega
        have HMM := Aside0.mk (And.intro hL1 (And.intro hlM (And.intro hL2 hs.facts.2.2.2.2.2.2)))
        clear hj0 hj1 hj2 hj ej hL1 hL2 hlM
        obtain ⟨r, hfr⟩ := hs.found x
        have hfind := fun W (hs : Sta w W g M 1000) => find_st hs x hfr
        have HF := Aside0.mk hfind
        have HFR := Aside0.mk hfr
        clear hfind hfr
        go_wp2_with (first
          | (go_at_call 12; refine (walk_st hs).mono ?_; rintro e w7 ⟨v7, rfl, hr7, hs7, hb7⟩; obtain ⟨A1, c1, rfl, hc1, hK⟩ := row_C hr7 (by have := HMM.out.2.1; omega); have HS7 := Aside0.mk hs7; have HR7 := Aside0.mk hr7; have HC1 := Aside0.mk hc1; clear hs hr7 hs7 hb7 hK hc1)
          | (go_at_call 16; refine (HF.out _ HS7.out).mono ?_; rintro e w8 ⟨rfl, hs8, hb8⟩; have HS8 := Aside0.mk hs8; have HR8 := Aside0.mk ((Kept.of_below hb8).row HR7.out); clear hs8 hb8))
        have ha := (Below.refl w8.heap.size w8).alloc (Nat.le_refl _) (Obj.cells #[.int .i64 (bestA r), .int .i64 (bestN r), .int .i64 (bestV r)] 33)
        have hx := heap_alloc_new w8 (Obj.cells #[.int .i64 (bestA r), .int .i64 (bestN r), .int .i64 (bestV r)] 33)
        have hrB := (Kept.of_below ha).row HR8.out
        have hBB := (HS8.out.below ha).b
        generalize (w8.alloc (Obj.cells #[.int .i64 (bestA r), .int .i64 (bestN r), .int .i64 (bestV r)] 33)) = wB at hx hrB hBB
        generalize w8.heap.size = gx at hx
        have y0 : wB.cell? ⟨gx, 0, none⟩ = some (.int .i64 (bestA r)) := blk_c hx 0
        have y1 : wB.cell? ⟨gx, 1, none⟩ = some (.int .i64 (bestN r)) := blk_c hx 1
        have y2 : wB.cell? ⟨gx, 2, none⟩ = some (.int .i64 (bestV r)) := blk_c hx 2
        have HB := Aside0.mk (And.intro hrB (And.intro hBB (And.intro y0 (And.intro y1 y2))))
        clear ha hx hrB hBB y0 y1 y2 HS8 HR8 HS7 HR7
        go_loopg [11, 12] (ents3 M).length (fun k v11 v12 wx => ∃ i : Int, v11 = .bool (seen (cF (K32 x) r) (ents3 M) i) ∧ v12 = .int .i64 i ∧ Aside0 (0 ≤ i ∧ i ≤ ((ents3 M).length : Int) ∧ (k : Int) + i = ((ents3 M).length : Int)) ∧ Aside0 (Below wB.heap.size wB wx))
        case atStart => exact ⟨0, by rw [seen_zero], rfl, ⟨by omega, by omega, by omega⟩, ⟨Below.refl _ _⟩⟩
        case round =>
          obtain ⟨i, rfl, rfl, ⟨hi0, hi1, hi2⟩, ⟨hbx⟩⟩ := hrel
          by_cases hi : i < ((ents3 M).length : Int)
          · have bi : decide (i < ((ents3 M).length : Int)) = true := decide_eq_true hi
            have bi0 : decide (0 ≤ i) = true := decide_eq_true hi0
            obtain ⟨ad1, e, rfl, he, hrd, r0, r1, r2⟩ := row_cells HB.out.1 (by have := HMM.out.2.1; omega) i hi0 hi
            have hle := HMM.out.2.2.2 e (mem_of_get he)
            have hst := seen_step (cF (K32 x) r) (ents3 M) i hi0 hi
            rw [hrd, cF_ent hle] at hst
            have hm1 := IntWalk.i64_in (i + 1) (by have := HMM.out.2.1; have := ents3_length M; omega)
            obtain ⟨r1', hf1, hi1'⟩ := find_one (K32 x) e.1 7
            have HF1 := Aside0.mk hf1
            have HPL := Aside0.mk (put_one hle 7)
            have hpre : e.1.isPrefixOf (K32 x) = true → r.isSome = true ∧ decide (bestN r < (e.1.length : Int)) = false := by
              intro h
              have hp := List.isPrefixOf_iff_prefix.1 h
              cases r with
              | none => exact absurd hp (HFR.out e (mem_of_get he))
              | some f => exact ⟨rfl, decide_eq_false (by have := HFR.out.2.2 e (mem_of_get he) hp; simp only [bestN]; omega)⟩
            have HJ := Aside0.mk (And.intro hi0 (And.intro hi (And.intro hi2 hbx)))
            have HST := Aside0.mk hst
            have HRR := Aside0.mk (And.intro r0 (And.intro r1 r2))
            have m0 := pw_cell_below hbx r0
            have m1 := pw_cell_below hbx r1
            have hi0' := eq_true hi0
            have hi' := eq_true hi
            clear hi0 hi1 hi2 hi hst hrd he hf1 r0 r1 r2 hle hbx
            go_wp2_with (first
              | (go_at_call 11; refine (new_st (w := wr) (Below.refl _ _) 1).mono ?_; rintro e1 w3 ⟨rfl, hs3, -⟩; have HS3 := Aside0.mk (show Sta wr w3 wr.heap.size [] 1 from hs3); have d0 := pw_cell_below hs3.b m0; have d1 := pw_cell_below hs3.b m1; clear hs3 m0 m1)
              | (go_at_call 14; refine (put_st HS3.out (ad e.1 : Int) (e.1.length : Int) 7).mono ?_; rw [HPL.out]; rintro e1 w4 ⟨rfl, hs4, -⟩; have HS4 := Aside0.mk hs4; clear hs4 d0 d1)
              | (go_at_call 16; refine (find_st HS4.out x HF1.out).mono ?_; rintro e1 w5 ⟨rfl, hs5, -⟩; have HB5 := Aside0.mk (below_step HJ.out.2.2.2 (hs5.b.alloc (o := (Obj.cells #[.int .i64 (bestA r1'), .int .i64 (bestN r1'), .int .i64 (bestV r1')] 33)) hs5.b.size)); clear hs5))
            have ha := HB5.out
            have k0 := pw_cell_below ha HRR.out.1
            have k1 := pw_cell_below ha HRR.out.2.1
            have k2 := pw_cell_below ha HRR.out.2.2
            have y0 := pw_cell_below ha HB.out.2.2.1
            have y1 := pw_cell_below ha HB.out.2.2.2.1
            have y2 := pw_cell_below ha HB.out.2.2.2.2
            generalize (w5.alloc (Obj.cells #[.int .i64 (bestA r1'), .int .i64 (bestN r1'), .int .i64 (bestV r1')] 33)) = W9 at ha k0 k1 k2 y0 y1 y2
            have HA := Aside0.mk ha
            clear ha HB5
            have hin0 : ∃ b, b = seen (cF (K32 x) r) (ents3 M) i := ⟨_, rfl⟩
            obtain ⟨bin, hbin⟩ := hin0
            have hq0 : ∃ b, b = ((((ad e.1 : Int) == bestA r) && ((e.1.length : Int) == bestN r)) && (e.2 == bestV r)) := ⟨_, rfl⟩
            obtain ⟨q, hq⟩ := hq0
            have hst := HST.out
            rw [← hbin, ← hq] at hst
            rw [← hbin]
            have HST2 := Aside0.mk hst
            clear hst HST
            have hq' := hq.symm
            clear hbin hq
            cases hb : e.1.isPrefixOf (K32 x)
            · have hi2 : r1'.isSome = false := hi1'.trans hb
              have HBF := Aside0.mk hb
              clear hpre hi1' hb
              cases bin <;> cases q
              all_goals (
                go_wp2
                repeat (go_quiet (fail); try go_wp2)
                obtain ⟨h0, h1, h2, -⟩ := HJ.out
                go_roundg ((ents3 M).length - i.toNat - 1)
                case measure => omega
                case rel => exact ⟨i + 1, by rw [HST2.out, HBF.out]; rfl, rfl, ⟨by omega, by omega, by omega⟩, ⟨pw_below_drewN HA.out _⟩⟩)
            · have hi2 : r1'.isSome = true := hi1'.trans hb
              obtain ⟨hrs, hrl⟩ := hpre hb
              have HBF := Aside0.mk hb
              clear hpre hi1' hb
              cases bin <;> cases q
              all_goals (
                go_wp2
                repeat (go_quiet (fail); try go_wp2)
                obtain ⟨h0, h1, h2, -⟩ := HJ.out
                go_roundg ((ents3 M).length - i.toNat - 1)
                case measure => omega
                case rel => exact ⟨i + 1, by rw [HST2.out, HBF.out]; rfl, rfl, ⟨by omega, by omega, by omega⟩, ⟨pw_below_drewN HA.out _⟩⟩)
          · have bi : decide (i < ((ents3 M).length : Int)) = false := decide_eq_false hi
            have hse := (seen_all (cF (K32 x) r) (ents3 M) i (by omega)).trans (finds_end HFR.out HMM.out.2.2.2)
            rw [hse]
            have HE := Aside0.mk (below_step HB.out.2.1 hbx)
            clear hi0 hi1 hi2 hi hbx hse
            go_wp2
            go_ret
            exact ⟨by cases r <;> rfl, HE.out⟩
end Go.Proofs.Ytjffikckddijmaa
