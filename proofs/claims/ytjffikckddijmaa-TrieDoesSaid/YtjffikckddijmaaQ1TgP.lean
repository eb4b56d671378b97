/-
  Chapter 7: the reference's list of entries: Put.
-/
import Derived.Test.YtjffikckddijmaaQ1TgW
namespace Go.Proofs.Ytjffikckddijmaa
open Go.RowKit Go.Proofs.YtjffikckddijmaaW.PrintWords Go.Proofs.YtjffikckddijmaaW.PrintLast Go.Proofs.YtjffikckddijmaaW.PrintMore
open All All.BM
attribute [local go_sem] max2_int min2_int max_two min_two max_three min_three max_four min_four
set_option linter.unusedVariables false
set_option linter.unusedSimpArgs false
attribute [local go_sem high] eqA31 eqA33
def RL (W : World) (base gr : Nat) (L : Es) (rm : Nat) : Prop := ∃ v, W.heap[gr]? = some (.cells #[v, .int .i64 (rm : Int)] 49 (0, 0)) ∧ Kd.R k33 33 W base (fun _ => True) v (ents3 L) ∧ base ≤ gr
theorem RL.below {W W' : World} {base gr : Nat} {L : Es} {rm : Nat} (h : RL W base gr L rm) (hb : Below W.heap.size W W') : RL W' base gr L rm := by
  obtain ⟨v, h1, h2, h3⟩ := h
  exact ⟨v, (hb.block gr (Array.getElem?_eq_some_iff.1 h1).1).trans h1, Kd.R_below h2 hb, h3⟩
def RfOp (W : World) (base gr : Nat) (v : Value) (L : Es) (rm : Nat) (e : Ending) (W' : World) : Prop := e = .returned v ∧ RL W' base gr L rm ∧ Fr W W' gr none
theorem RL.set {W W' : World} {base gr : Nat} {L L' : Es} {rm : Nat} (h : RL W base gr L rm) (hb : Below W.heap.size W W') {u : Value} (hu : Kd.R k33 33 W' base (fun _ => True) u (ents3 L')) : RL (W'.setCell ⟨gr, 0, none⟩ u) base gr L' rm ∧ Fr W (W'.setCell ⟨gr, 0, none⟩ u) gr none := by
  obtain ⟨v, h1, h2, h3⟩ := h
  have h4 := (hb.block gr (Array.getElem?_eq_some_iff.1 h1).1).trans h1
  refine ⟨⟨u, ?_, Kd.R_set hu h4 (by decide) 0 u, h3⟩, ?_⟩
  · simp [World.setCell, Array.getElem?_modify, h4]
  · refine ⟨hb.os, hb.tape, hb.output, ?_, fun k hk hne _ => ?_⟩
    · simpa [World.setCell] using hb.size
    · rw [Below.heap_setCell W' ⟨gr, 0, none⟩ u k hne]
      exact hb.block k hk
set_option maxHeartbeats 4000000 in
set_option maxRecDepth 100000 in
theorem ref_put {W : World} {base gr : Nat} {L : Es} {rm : Nat} (h : RL W base gr L rm) (hs : Srt L) (hL : ∀ e ∈ L, e.1.length ≤ 32) (hl : L.length ≤ 90) (hbw : base ≤ W.heap.size) (a n v : Int) :
    Calls Try.prog 20 #[.pointer (some ⟨gr, 0, none⟩), .agg #[.int .i64 a, .int .i64 n], .int .i64 v] W (RfOp W base gr (.int .i64 (putL L rm a n v).1) (putL L rm a n v).2 rm) := by
  have H := Aside0.mk h
  by_cases hp : isPre a n
  · have hmay : wayfinderref01_May.f 80 a n = some true := by rw [r_May 80 (by omega), decide_eq_true hp]
    have hw := with_f hs hL (by omega) hp v
    have hlen := insL_length L (kOf a n) v
    have hkeys : ∀ e ∈ insL L (kOf a n) v, e.1.length ≤ 32 := by
      rintro ⟨k, u⟩ hk
      rcases (mem_insL hs _ _ _ _).1 hk with ⟨rfl, _⟩ | ⟨_, hk⟩
      · exact (kOf_spec hp).1
      · exact hL _ hk
    have hn := nodes_f hkeys (by omega) (k := 2000000) (by omega)
    obtain ⟨v0, hb, hR, hbg⟩ := h
    obtain ⟨A, c, rfl, hc, hK⟩ := Kd.R_reads hR
    have c0 : W.cell? ⟨gr, 0, none⟩ = some (.slice A (ents3 L).length c) := blk_c hb 0
    have c1 : W.cell? ⟨gr, 1, none⟩ = some (.int .i64 (rm : Int)) := blk_c hb 1
    have fz := blk_f hb
    have hgz := (Array.getElem?_eq_some_iff.1 hb).1
    have HM := Aside0.mk hmay
    have HW := Aside0.mk hw
    have HN := Aside0.mk hn
    have HK := Aside0.mk (And.intro hc hK)
    have HBW := Aside0.mk hbw
    have HHB := Aside0.mk hb
    have hput : putL L rm a n v = if nod (insL L (kOf a n) v) ≤ rm then (0, insL L (kOf a n) v) else (7, L) := by unfold putL; rw [if_pos hp]
    have HP := Aside0.mk hput
    generalize insL L (kOf a n) v = N at HW HN HP
    clear hs hL hl hp hmay hw hlen hkeys hn hR hbg hc hK hbw hb hput
    go_enter Try.func20, Try.ntmps20
    go_wp2_with (first
      | (go_at_call 35; refine (wayfinderref01_May.calls 80 _ _ _ _ HM.out).mono ?_; rintro e w1 ⟨rfl, hb1⟩; have e0 := (hb1.block W.heap.size (by simp)).trans (heap_alloc_new W _); have B1 := below_step ((Below.refl _ _).alloc (Nat.le_refl _) _) hb1; have b0 : w1.cell? ⟨W.heap.size, 0, none⟩ = some (.int .i64 a) := blk_c e0 0; have b1 : w1.cell? ⟨W.heap.size, 1, none⟩ = some (.int .i64 n) := blk_c e0 1; have d0 := pw_cell_below B1 c0; have HB1 := Aside0.mk B1; clear hb1 e0 B1))
    go_region_held3 (fun w' => w'.cell? ⟨gr, 0, none⟩ = some (.slice A (ents3 L).length c) ∧ w'.cell? ⟨W.heap.size, 0, none⟩ = some (.int .i64 a) ∧ w'.cell? ⟨W.heap.size, 1, none⟩ = some (.int .i64 n))
      (first | go_keep | (go_split_ands; exact ⟨pw_cell_below hb5 (by assumption), pw_cell_below hb5 (by assumption), pw_cell_below hb5 (by assumption)⟩))
      (first | (go_at_call 36; refine (wayfinderref07_with.calls 2100 _ _ _ _ _ _ _ _ (Kd.C_below HK.out.2 (pw_below_drewN HB1.out 1)) HK.out.1 HW.out).mono ?_; rintro e w5 ⟨vr, rfl, hR5, hb5⟩; obtain ⟨A5, c5, rfl⟩ := Kd.R_slice hR5))
    rename_i hHeld
    clear hHeld b0 b1 d0
    have B5 := below_step (pw_below_drewN HB1.out 1) hb5
    have HB5 := Aside0.mk (pw_below_drewN B5 1)
    have m1 := pw_cell_below B5 c1
    have HR5 := Aside0.mk (Kd.R_lower (base' := base) hR5 (by have h1 := HB1.out.size; have h2 := HBW.out; show base ≤ w1.heap.size; omega))
    obtain ⟨-, hc5, hK5⟩ := Kd.R_reads' hR5
    have HK5 := Aside0.mk (And.intro hc5 (Kd.C_below hK5 (pw_below_drewN (Below.refl _ _) 1)))
    clear B5 hb5 hR5 hc5 hK5 c0 c1
    go_wp2
    go_region_held3 (fun w' => w'.cell? ⟨gr, 1, none⟩ = some (.int .i64 (rm : Int)))
      (first | go_keep | exact pw_cell_below hb6 (by assumption))
      (first | (go_at_call 23; refine (wayfinderref07_Nodes.calls 2000000 _ _ _ _ _ HK5.out.2 HK5.out.1 HN.out).mono ?_; rintro e w6 ⟨rfl, hb6⟩))
    rename_i hHeld
    clear hHeld m1
    have HB6 := Aside0.mk (below_step HB5.out hb6)
    have HR6 := Aside0.mk (Kd.R_below (Kd.R_drewN HR5.out 1) hb6)
    have e6 := (HB6.out.block gr hgz).trans HHB.out
    have g0 : w6.cell? ⟨gr, 0, none⟩ = some (.slice A (ents3 L).length c) := blk_c e6 0
    have g1 := blk_f e6
    have g2 := World.block_lt_of_cell? w6 _ g0
    clear hb6 fz e6
    go_wp2
    · rename_i hq
      have hE := HP.out.trans (if_neg (by omega))
      go_ret
      rw [hE]
      exact ⟨rfl, H.out.below HB6.out, Fr.of_below HB6.out gr none⟩
    · rename_i hq
      have hE := HP.out.trans (if_pos (by omega))
      go_ret
      rw [hE]
      exact ⟨rfl, RL.set H.out HB6.out HR6.out⟩
  · have hmay : wayfinderref01_May.f 80 a n = some false := by rw [r_May 80 (by omega), decide_eq_false hp]
    have HM := Aside0.mk hmay
    have hput : putL L rm a n v = (1, L) := putL_bad hp v
    rw [hput]
    clear h hmay hp hput hs hL hl
    go_enter Try.func20, Try.ntmps20
    go_wp2_with (first
      | (go_at_call 35; refine (wayfinderref01_May.calls 80 _ _ _ _ HM.out).mono ?_; rintro e w1 ⟨rfl, hb1⟩))
    go_ret
    have hbb := below_step ((Below.refl W.heap.size W).alloc (Nat.le_refl _) (Obj.cells #[.int .i64 a, .int .i64 n] 31)) hb1
    exact ⟨rfl, H.out.below hbb, Fr.of_below hbb gr none⟩
end Go.Proofs.Ytjffikckddijmaa
namespace Go.Proofs.Ytjffikckddijmaa
open Go.RowKit Go.Proofs.YtjffikckddijmaaW.PrintWords Go.Proofs.YtjffikckddijmaaW.PrintLast Go.Proofs.YtjffikckddijmaaW.PrintMore
open All All.BM
attribute [local go_sem] max2_int min2_int max_two min_two max_three min_three max_four min_four
set_option linter.unusedVariables false
set_option linter.unusedSimpArgs false
attribute [local go_sem high] eqA31 eqA33
theorem has_f {p : K} (h : p.length ≤ 32) (a : Int) : wayfinderref01_Has.f 80 (ad p : Int) (p.length : Int) a = some (p.isPrefixOf (K32 a)) := by
  rw [r_Has 80 (by omega), bd_nat _ h]
  congr 1
  rw [Bool.eq_iff_iff, List.isPrefixOf_iff_prefix, pre_K32 h]
  simp
  omega
theorem fs_no {A : K} {P : Es} {r : Option (K × Int)} {e : K × Int} (h : FindSpec A P r) (he : e.1.isPrefixOf A = false) : FindSpec A (P ++ [e]) r := by
  have hn : ¬ e.1 <+: A := fun h => by rw [List.isPrefixOf_iff_prefix.2 h] at he; cases he
  cases r with
  | none =>
    intro f hf
    rcases List.mem_append.1 hf with hf | hf
    · exact h f hf
    · simp at hf; rw [hf]; exact hn
  | some g =>
    refine ⟨List.mem_append_left _ h.1, h.2.1, fun f hf hp => ?_⟩
    rcases List.mem_append.1 hf with hf | hf
    · exact h.2.2 f hf hp
    · simp at hf; subst hf; exact absurd hp hn
theorem fs_up {A : K} {P : Es} {r : Option (K × Int)} {e : K × Int} (h : FindSpec A P r) (he : e.1.isPrefixOf A = true) (hl : ∀ g, r = some g → g.1.length < e.1.length) : FindSpec A (P ++ [e]) (some e) := by
  refine ⟨by simp, List.isPrefixOf_iff_prefix.1 he, fun f hf hp => ?_⟩
  rcases List.mem_append.1 hf with hf | hf
  · cases r with
    | none => exact absurd hp (h f hf)
    | some g => have h1 := hl g rfl; have h2 := h.2.2 f hf hp; omega
  · simp at hf; subst hf; exact Nat.le_refl _
theorem fs_keep {A : K} {P : Es} {g e : K × Int} (h : FindSpec A P (some g)) (hl : e.1.length ≤ g.1.length) : FindSpec A (P ++ [e]) (some g) := by
  refine ⟨List.mem_append_left _ h.1, h.2.1, fun f hf hp => ?_⟩
  rcases List.mem_append.1 hf with hf | hf
  · exact h.2.2 f hf hp
  · simp at hf; subst hf; exact hl
theorem rf_below {w w5 : World} (h : Below w.heap.size w w5) (x y z : Value) : Below w.heap.size w (((w5.setCell ⟨w.heap.size + 1, 0, none⟩ x).setCell ⟨w.heap.size + 1, 1, none⟩ y).setCell ⟨w.heap.size + 1, 2, none⟩ z) :=
  ((h.setCell (p := ⟨w.heap.size + 1, 0, none⟩) (Nat.le_succ _) _).setCell (p := ⟨w.heap.size + 1, 1, none⟩) (Nat.le_succ _) _).setCell (p := ⟨w.heap.size + 1, 2, none⟩) (Nat.le_succ _) _
theorem rf_b4 {w w5 : World} {o : Obj} (h : w5.heap[w.heap.size]? = some o) (x y z : Value) : (((w5.setCell ⟨w.heap.size + 1, 0, none⟩ x).setCell ⟨w.heap.size + 1, 1, none⟩ y).setCell ⟨w.heap.size + 1, 2, none⟩ z).heap[w.heap.size]? = some o := by
  rw [Below.heap_setCell _ _ _ _ (by simp), Below.heap_setCell _ _ _ _ (by simp), Below.heap_setCell _ _ _ _ (by simp)]
  exact h
theorem rf_b6 {w w5 : World} {bst : Option (K × Int)} (h : w5.heap[w.heap.size + 1]? = some (.cells (bestCs bst) 33 (0, 0))) (e : K × Int) :
    (((w5.setCell ⟨w.heap.size + 1, 0, none⟩ (.int .i64 (ad e.1 : Int))).setCell ⟨w.heap.size + 1, 1, none⟩ (.int .i64 (e.1.length : Int))).setCell ⟨w.heap.size + 1, 2, none⟩ (.int .i64 e.2)).heap[w.heap.size + 1]? = some (.cells (bestCs (some e)) 33 (0, 0)) := by
  simp [World.setCell, Array.getElem?_modify, h, bestCs, bestA, bestN, bestV]
set_option maxHeartbeats 4000000 in
set_option maxRecDepth 100000 in
theorem ref_find {w : World} {base gr : Nat} {L : Es} {rm : Nat} (h : RL w base gr L rm) (hs : Srt L) (hL : ∀ e ∈ L, e.1.length ≤ 32) (hl : L.length ≤ 90) (x : Int) {r : Option (K × Int)} (hr : FindSpec (K32 x) L r) :
    Calls Try.prog 22 #[.pointer (some ⟨gr, 0, none⟩), .int .i64 x] w (FindP w r) := by
  obtain ⟨v0, hb, hR, hbg⟩ := h
  obtain ⟨A, c, rfl, hc, hK⟩ := Kd.R_reads hR
  have c0 : w.cell? ⟨gr, 0, none⟩ = some (.slice A (ents3 L).length c) := blk_c hb 0
  have HB := Aside0.mk c0
  have HL := Aside0.mk (And.intro hs (And.intro hL (And.intro hl hr)))
  have HK := Aside0.mk hK
  have HC := Aside0.mk hc
  have hgz := (Array.getElem?_eq_some_iff.1 hb).1
  clear hb hR hbg hc hK hs hL hl hr
  go_enter Try.func22, Try.ntmps22
  go_wp2
  go_loopg [7, 8] (ents3 L).length (fun k v7 v8 wr => ∃ (i : Int) (bst : Option (K × Int)), v7 = .bool bst.isSome ∧ v8 = .int .i64 i ∧
    Aside0 (0 ≤ i ∧ i ≤ ((ents3 L).length : Int) ∧ (k : Int) + i = ((ents3 L).length : Int) ∧ FindSpec (K32 x) (L.take i.toNat) bst) ∧ Aside0 (Below w.heap.size w wr ∧
    wr.heap[w.heap.size]? = some (.cells #[.int .i64 0, .int .i64 0, .int .i64 0] 33 (0, 0)) ∧ wr.heap[w.heap.size + 1]? = some (.cells (bestCs bst) 33 (0, 0))))
  case atStart =>
    refine ⟨0, none, rfl, rfl, ⟨by omega, by omega, by omega, fun f hf => by simp at hf⟩, ⟨((Below.refl _ _).alloc (Nat.le_refl _) _).alloc (by simp) _, ?_, ?_⟩⟩
    · exact (Below.heap_alloc _ _ _ (by simp)).trans (heap_alloc_new w _)
    · have := heap_alloc_new (w.alloc (.cells #[.int .i64 0, .int .i64 0, .int .i64 0] 33)) (.cells #[.int .i64 0, .int .i64 0, .int .i64 0] 33)
      show _ = some (Obj.cells #[.int .i64 0, .int .i64 0, .int .i64 0] 33 (0, 0))
      simpa using this
  case round =>
    obtain ⟨i, bst, rfl, rfl, ⟨hi0, hi1, hi2, hfs⟩, ⟨hB, B4, B6⟩⟩ := hrel
    clear c0
    have c0 := pw_cell_below hB HB.out
    have s0 : wr.cell? ⟨w.heap.size + 1, 0, none⟩ = some (.int .i64 (bestA bst)) := blk_c B6 0
    have s1 : wr.cell? ⟨w.heap.size + 1, 1, none⟩ = some (.int .i64 (bestN bst)) := blk_c B6 1
    have s2 : wr.cell? ⟨w.heap.size + 1, 2, none⟩ = some (.int .i64 (bestV bst)) := blk_c B6 2
    have r0 : wr.cell? ⟨w.heap.size, 0, none⟩ = some (.int .i64 0) := blk_c B4 0
    have r1 : wr.cell? ⟨w.heap.size, 1, none⟩ = some (.int .i64 0) := blk_c B4 1
    have r2 : wr.cell? ⟨w.heap.size, 2, none⟩ = some (.int .i64 0) := blk_c B4 2
    have f4 := blk_f B4
    have hz4 := (Array.getElem?_eq_some_iff.1 B4).1
    have HBK := Aside0.mk (And.intro hB (And.intro B4 B6))
    by_cases hi : i < ((ents3 L).length : Int)
    · have bi : decide (i < ((ents3 L).length : Int)) = true := decide_eq_true hi
      have bi0 : decide (0 ≤ i) = true := decide_eq_true hi0
      obtain ⟨e, he, hrd⟩ := rd_ents i hi0 hi
      obtain ⟨ad1, rfl, t0, t1, t2⟩ := at_T33 HK.out i hi0 hi
      rw [hrd] at t0 t1 t2
      simp only [entS] at t0 t1 t2
      have u0 := pw_cell_below hB t0
      have u1 := pw_cell_below hB t1
      have u2 := pw_cell_below hB t2
      have hle := HL.out.2.1 e (mem_of_get he)
      have hm1 := IntWalk.i64_in (i + 1) (by have := HL.out.2.2.1; have := ents3_length L; omega)
      have htk : L.take (i + 1).toNat = L.take i.toNat ++ [e] := by
        have e1 : (i + 1).toNat = i.toNat + 1 := by omega
        obtain ⟨h1, h2⟩ := List.getElem?_eq_some_iff.1 he
        rw [e1, List.take_succ_eq_append_getElem h1, h2]
      have HH := Aside0.mk (has_f hle x)
      have HJ := Aside0.mk (And.intro hi0 (And.intro hi (And.intro hi2 (And.intro hfs htk))))
      have hi0' := eq_true hi0
      have hi' := eq_true hi
      clear hi0 hi1 hi2 hi hfs htk he hrd t0 t1 t2 hle hB B4 B6 f4 hz4 r0 r1 r2
      cases hpre : e.1.isPrefixOf (K32 x)
      · rw [hpre] at HH
        have HP := Aside0.mk hpre
        clear hpre
        go_wp2_with (first | (go_at_call 37; refine (wayfinderref01_Has.calls 80 _ _ _ _ _ HH.out).mono ?_; rintro e1 w5 ⟨rfl, hb5⟩; have HB5 := Aside0.mk (And.intro (below_step HBK.out.1 hb5) (And.intro ((hb5.block _ (Array.getElem?_eq_some_iff.1 HBK.out.2.1).1).trans HBK.out.2.1) ((hb5.block _ (Array.getElem?_eq_some_iff.1 HBK.out.2.2).1).trans HBK.out.2.2))); clear hb5 c0 s0 s1 s2 u0 u1 u2))
        repeat (go_quiet (fail); try go_wp2)
        obtain ⟨h0, h1, h2, h3, h4⟩ := HJ.out
        go_roundg ((ents3 L).length - i.toNat - 1)
        case measure => omega
        case rel => exact ⟨i + 1, bst, rfl, rfl, ⟨by omega, by omega, by omega, by rw [h4]; exact fs_no h3 HP.out⟩, ⟨pw_below_drewN HB5.out.1 _, HB5.out.2.1, HB5.out.2.2⟩⟩
      · rw [hpre] at HH
        have HP := Aside0.mk hpre
        clear hpre
        go_wp2_with (first | (go_at_call 37; refine (wayfinderref01_Has.calls 80 _ _ _ _ _ HH.out).mono ?_; rintro e1 w5 ⟨rfl, hb5⟩; have HB5 := Aside0.mk (And.intro (below_step HBK.out.1 hb5) (And.intro ((hb5.block _ (Array.getElem?_eq_some_iff.1 HBK.out.2.1).1).trans HBK.out.2.1) ((hb5.block _ (Array.getElem?_eq_some_iff.1 HBK.out.2.2).1).trans HBK.out.2.2))); have C0 := pw_cell_below hb5 c0; have S1 := pw_cell_below hb5 s1; have U0 := pw_cell_below hb5 u0; have U1 := pw_cell_below hb5 u1; have U2 := pw_cell_below hb5 u2; clear hb5 c0 s0 s1 s2 u0 u1 u2))
        have hcs : (bst.isSome = false ∧ ∀ g, bst = some g → g.1.length < e.1.length) ∨ (bst.isSome = true ∧ decide (bestN bst < (e.1.length : Int)) = true ∧ ∀ g, bst = some g → g.1.length < e.1.length) ∨ (bst.isSome = true ∧ decide (bestN bst < (e.1.length : Int)) = false ∧ ∃ g, bst = some g ∧ e.1.length ≤ g.1.length) := by
          cases bst with
          | none => exact .inl ⟨rfl, fun g h => by cases h⟩
          | some g =>
            right
            by_cases h : g.1.length < e.1.length
            · exact .inl ⟨rfl, decide_eq_true (by simp only [bestN]; omega), fun g' h' => by cases h'; exact h⟩
            · exact .inr ⟨rfl, decide_eq_false (by simp only [bestN]; omega), g, rfl, by omega⟩
        rcases hcs with ⟨g1, gu⟩ | ⟨g1, g2, gu⟩ | ⟨g1, g2, gu⟩
        · have HUP := Aside0.mk gu
          clear gu
          go_wp2
          go_quiet (fail)
          have q := pw_below_drewN HB5.out.1 nq
          have b4 : (w5.drewN nq).heap[w.heap.size]? = some (.cells #[.int .i64 0, .int .i64 0, .int .i64 0] 33 (0, 0)) := HB5.out.2.1
          have b6 : (w5.drewN nq).heap[w.heap.size + 1]? = some (.cells (bestCs bst) 33 (0, 0)) := HB5.out.2.2
          have k0 : (w5.drewN nq).cell? ⟨gr, 0, none⟩ = some (.slice (some ad1) (ents3 L).length c) := C0
          have v0 : (w5.drewN nq).cell? (ad1.add (i.toNat * 3)) = some (.int .i64 (ad e.1 : Int)) := U0
          have v1 : (w5.drewN nq).cell? ⟨(ad1.add (i.toNat * 3)).block, (ad1.add (i.toNat * 3)).off + 1, none⟩ = some (.int .i64 (e.1.length : Int)) := U1
          have v2 : (w5.drewN nq).cell? ⟨(ad1.add (i.toNat * 3)).block, (ad1.add (i.toNat * 3)).off + 2, none⟩ = some (.int .i64 e.2) := U2
          generalize w5.drewN nq = W5 at q b4 b6 k0 v0 v1 v2
          have s0 : W5.cell? ⟨w.heap.size + 1, 0, none⟩ = some (.int .i64 (bestA bst)) := blk_c b6 0
          have s1 : W5.cell? ⟨w.heap.size + 1, 1, none⟩ = some (.int .i64 (bestN bst)) := blk_c b6 1
          have s2 : W5.cell? ⟨w.heap.size + 1, 2, none⟩ = some (.int .i64 (bestV bst)) := blk_c b6 2
          have f6 := blk_f b6
          have hz6 := (Array.getElem?_eq_some_iff.1 b6).1
          have HQ := Aside0.mk (And.intro q (And.intro b4 b6))
          clear q b4 b6 C0 S1 U0 U1 U2
          go_wp2
          obtain ⟨h0, h1, h2, h3, h4⟩ := HJ.out
          go_roundg ((ents3 L).length - i.toNat - 1)
          case measure => omega
          case rel => exact ⟨i + 1, some e, rfl, rfl, ⟨by omega, by omega, by omega, by rw [h4]; exact fs_up h3 HP.out HUP.out⟩, ⟨rf_below HQ.out.1 _ _ _, rf_b4 HQ.out.2.1 _ _ _, rf_b6 HQ.out.2.2 e⟩⟩
        · have HUP := Aside0.mk gu
          clear gu
          go_wp2
          go_quiet (fail)
          have q := pw_below_drewN HB5.out.1 nq
          have b4 : (w5.drewN nq).heap[w.heap.size]? = some (.cells #[.int .i64 0, .int .i64 0, .int .i64 0] 33 (0, 0)) := HB5.out.2.1
          have b6 : (w5.drewN nq).heap[w.heap.size + 1]? = some (.cells (bestCs bst) 33 (0, 0)) := HB5.out.2.2
          have k0 : (w5.drewN nq).cell? ⟨gr, 0, none⟩ = some (.slice (some ad1) (ents3 L).length c) := C0
          have v0 : (w5.drewN nq).cell? (ad1.add (i.toNat * 3)) = some (.int .i64 (ad e.1 : Int)) := U0
          have v1 : (w5.drewN nq).cell? ⟨(ad1.add (i.toNat * 3)).block, (ad1.add (i.toNat * 3)).off + 1, none⟩ = some (.int .i64 (e.1.length : Int)) := U1
          have v2 : (w5.drewN nq).cell? ⟨(ad1.add (i.toNat * 3)).block, (ad1.add (i.toNat * 3)).off + 2, none⟩ = some (.int .i64 e.2) := U2
          generalize w5.drewN nq = W5 at q b4 b6 k0 v0 v1 v2
          have s0 : W5.cell? ⟨w.heap.size + 1, 0, none⟩ = some (.int .i64 (bestA bst)) := blk_c b6 0
          have s1 : W5.cell? ⟨w.heap.size + 1, 1, none⟩ = some (.int .i64 (bestN bst)) := blk_c b6 1
          have s2 : W5.cell? ⟨w.heap.size + 1, 2, none⟩ = some (.int .i64 (bestV bst)) := blk_c b6 2
          have f6 := blk_f b6
          have hz6 := (Array.getElem?_eq_some_iff.1 b6).1
          have HQ := Aside0.mk (And.intro q (And.intro b4 b6))
          clear q b4 b6 C0 S1 U0 U1 U2
          go_wp2
          obtain ⟨h0, h1, h2, h3, h4⟩ := HJ.out
          go_roundg ((ents3 L).length - i.toNat - 1)
          case measure => omega
          case rel => exact ⟨i + 1, some e, rfl, rfl, ⟨by omega, by omega, by omega, by rw [h4]; exact fs_up h3 HP.out HUP.out⟩, ⟨rf_below HQ.out.1 _ _ _, rf_b4 HQ.out.2.1 _ _ _, rf_b6 HQ.out.2.2 e⟩⟩
        · have HUP := Aside0.mk gu
          clear gu
          go_wp2
          repeat (go_quiet (fail); try go_wp2)
          obtain ⟨h0, h1, h2, h3, h4⟩ := HJ.out
          go_roundg ((ents3 L).length - i.toNat - 1)
          case measure => omega
          case rel =>
            refine ⟨i + 1, bst, rfl, rfl, ⟨by omega, by omega, by omega, ?_⟩, ⟨pw_below_drewN HB5.out.1 _, HB5.out.2.1, HB5.out.2.2⟩⟩
            obtain ⟨g, rfl, hg⟩ := HUP.out
            rw [h4]
            exact fs_keep h3 hg
    · have bi : decide (i < ((ents3 L).length : Int)) = false := decide_eq_false hi
      have e3 := ents3_length L
      have et : L.take i.toNat = L := List.take_of_length_le (by omega)
      rw [et] at hfs
      obtain rfl := hfs.uniq HL.out.1 HL.out.2.2.2
      clear hi0 hi1 hi2 hi hfs e3 et hB B4 B6
      go_wp2
      refine bodyPost_ret (v := .tuple #[.agg #[.int .i64 (bestA bst), .int .i64 (bestN bst), .int .i64 (bestV bst)], .bool bst.isSome]) (by simp [results, Try.results22, go_sem, r0, r1, r2]) rfl ⟨rfl, ?_⟩
      exact ((HBK.out.1.setCell (p := ⟨w.heap.size, 0, none⟩) (Nat.le_refl _) _).setCell (p := ⟨w.heap.size, 1, none⟩) (Nat.le_refl _) _).setCell (p := ⟨w.heap.size, 2, none⟩) (Nat.le_refl _) _
end Go.Proofs.Ytjffikckddijmaa
namespace Go.Proofs.Ytjffikckddijmaa
open Go.RowKit Go.Proofs.YtjffikckddijmaaW.PrintWords Go.Proofs.YtjffikckddijmaaW.PrintLast Go.Proofs.YtjffikckddijmaaW.PrintMore
open All All.BM
attribute [local go_sem] max2_int min2_int max_two min_two max_three min_three max_four min_four
set_option linter.unusedVariables false
set_option linter.unusedSimpArgs false
attribute [local go_sem high] eqA31 eqA33
theorem delL_snoc (L : Es) (e : K × Int) (p : K) : delL (L ++ [e]) p = if e.1 = p then delL L p else delL L p ++ [e] := by
  unfold delL
  rw [List.filter_append]
  by_cases h : e.1 = p <;> simp [h]
set_option maxHeartbeats 4000000 in
set_option maxRecDepth 100000 in
theorem ref_cut {w : World} {base gr : Nat} {L : Es} {rm : Nat} (h : RL w base gr L rm) (hs : Srt L) (hL : ∀ e ∈ L, e.1.length ≤ 32) (hl : L.length ≤ 90) (hbw : base ≤ w.heap.size) (a n : Int) :
    Calls Try.prog 21 #[.pointer (some ⟨gr, 0, none⟩), .agg #[.int .i64 a, .int .i64 n]] w (RfOp w base gr (.int .i64 (cutL L a n).1) (cutL L a n).2 rm) := by
  have H := Aside0.mk h
  by_cases hp : isPre a n
  · have hmay : wayfinderref01_May.f 80 a n = some true := by rw [r_May 80 (by omega), decide_eq_true hp]
    have hcut : cutL L a n = if kOf a n ∈ ks L then (0, delL L (kOf a n)) else (5, L) := by unfold cutL; rw [if_pos hp]
    have hks := kOf_spec hp
    generalize kOf a n = p at hcut hks
    obtain ⟨v0, hb, hR, hbg⟩ := h
    obtain ⟨A, c, rfl, hc, hK⟩ := Kd.R_reads hR
    have c0 : w.cell? ⟨gr, 0, none⟩ = some (.slice A (ents3 L).length c) := blk_c hb 0
    have HC0 := Aside0.mk c0
    have HM := Aside0.mk hmay
    have HK := Aside0.mk hK
    have HL := Aside0.mk (And.intro hL (And.intro hl (And.intro hks (And.intro hcut (And.intro hbw hs)))))
    have HHB := Aside0.mk hb
    have hu33 := Try.underlying33
    clear hs hL hl hp hmay hcut hks hb hR hbg hc hK hbw c0
    go_enter Try.func21, Try.ntmps21
    go_wp2_with (first
      | (go_at_call 35; refine (wayfinderref01_May.calls 80 _ _ _ _ HM.out).mono ?_; rintro e w1 ⟨rfl, hb1⟩; have e0 := (hb1.block w.heap.size (by simp)).trans (heap_alloc_new w _); have B1 := below_step ((Below.refl _ _).alloc (Nat.le_refl _) _) hb1; clear hb1))
    go_loopg [6, 7] (ents3 L).length (fun k v6 v7 wr => ∃ i : Int, v7 = .int .i64 i ∧ Aside0 (0 ≤ i ∧ i ≤ ((ents3 L).length : Int) ∧ (k : Int) + i = ((ents3 L).length : Int)) ∧ Aside0 (Below w.heap.size w wr) ∧ Aside0 (wr.heap[w.heap.size]? = some (.cells #[.int .i64 a, .int .i64 n] 31 (0, 0))) ∧ Aside0 (Kd.R k33 33 wr w.heap.size (fun k_ => k_ ≠ w.heap.size) v6 (ents3 (delL (L.take i.toNat) p))))
    case atStart => exact ⟨0, rfl, ⟨by omega, by omega, by omega⟩, ⟨B1⟩, ⟨e0⟩, ⟨Kd.R_nil _ _ _ _ _⟩⟩
    case round =>
      clear B1 e0
      obtain ⟨i, rfl, ⟨hi0, hi1, hi2⟩, HB, BK, HO⟩ := hrel
      have c0 := pw_cell_below HB.out HC0.out
      by_cases hi : i < ((ents3 L).length : Int)
      · have bi : decide (i < ((ents3 L).length : Int)) = true := decide_eq_true hi
        have bi0 : decide (0 ≤ i) = true := decide_eq_true hi0
        obtain ⟨e, he, hrd⟩ := rd_ents i hi0 hi
        obtain ⟨ad1, rfl, t0, t1, t2⟩ := at_T33 HK.out i hi0 hi
        rw [hrd] at t0 t1 t2
        simp only [entS] at t0 t1 t2
        have u0 := pw_cell_below HB.out t0
        have u1 := pw_cell_below HB.out t1
        have u2 := pw_cell_below HB.out t2
        have b0 : wr.cell? ⟨w.heap.size, 0, none⟩ = some (.int .i64 a) := blk_c BK.out 0
        have b1 : wr.cell? ⟨w.heap.size, 1, none⟩ = some (.int .i64 n) := blk_c BK.out 1
        have hle := HL.out.1 e (mem_of_get he)
        have hq : (((ad e.1 : Int) == a) && ((e.1.length : Int) == n)) = decide (e.1 = p) := by
          rw [HL.out.2.2.1.2.1, HL.out.2.2.1.2.2]
          exact key_eq HL.out.2.2.1.1 hle
        have hm1 := IntWalk.i64_in (i + 1) (by have := HL.out.2.1; have := ents3_length L; omega)
        have htk : L.take (i + 1).toNat = L.take i.toNat ++ [e] := by
          have e1 : (i + 1).toNat = i.toNat + 1 := by omega
          obtain ⟨h1, h2⟩ := List.getElem?_eq_some_iff.1 he
          rw [e1, List.take_succ_eq_append_getElem h1, h2]
        have hdl := delL_snoc (L.take i.toNat) e p
        rw [← htk] at hdl
        have hlen : (ents3 (delL (L.take i.toNat) p)).length ≤ 90 := by
          rw [ents3_length]
          have h1 : (delL (L.take i.toNat) p).length ≤ (L.take i.toNat).length := List.length_filter_le _ _
          have h2 := HL.out.2.1
          rw [List.length_take] at h1
          omega
        have HLEN := Aside0.mk hlen
        have HJ := Aside0.mk (And.intro hi0 (And.intro hi hi2))
        have hi0' := eq_true hi0
        have hi' := eq_true hi
        clear hi0 hi1 hi2 hi htk he hrd t0 t1 t2 hle hlen
        by_cases hp : e.1 = p
        · rw [if_pos hp] at hdl
          rw [decide_eq_true hp] at hq
          have HDL := Aside0.mk hdl
          clear hdl hp
          go_wp2
          repeat (go_quiet (fail); try go_wp2)
          obtain ⟨h0, h1, h2⟩ := HJ.out
          go_roundg ((ents3 L).length - i.toNat - 1)
          case measure => omega
          case rel => exact ⟨i + 1, rfl, ⟨by omega, by omega, by omega⟩, ⟨pw_below_drewN HB.out _⟩, ⟨BK.out⟩, ⟨by rw [HDL.out]; exact Kd.R_drewN HO.out _⟩⟩
        · rw [if_neg hp] at hdl
          rw [decide_eq_false hp] at hq
          have HDL := Aside0.mk hdl
          clear hdl hp
          go_wp2
          go_quiet (fail)
          go_wp2_with (first | ((with_reducible refine gate_builtin (b := .append) (xs := #[.tmp 31, .tmp 39]) rfl ?_); at_builtin; refine Kd.R_append k33 (w0 := w) w.heap.size rfl (.tmp 31) (.tmp 39) 22 33 (.agg #[(.int .i64 0), (.int .i64 0), (.int .i64 0)]) 24 rfl Try.underlying22 info33 rfl (by decide) (by omega) u6 (ents3 (delL (L.take i.toNat) p)) (entS e) [.int .i64 (ad e.1 : Int), .int .i64 (e.1.length : Int), .int .i64 e.2] (fun k_ => k_ ≠ w.heap.size) (fun _ => False) rfl rfl ?aP (fun _ hk => hk.elim) ?aF ?aO ?aB ?aS ?aL ?_; (case aP => exact k33_mkM _ _ _ (entS e)); (case aB => exact pw_below_drewN HB.out _); (case aF => exact (fun k_ hk => by have h1 := (Array.getElem?_eq_some_iff.1 BK.out).1; have h2 : wr.heap.size ≤ k_ := hk; omega)); (case aO => exact Kd.R_drewN HO.out _); (case aS => exact HB.out.size); (case aL => have := HLEN.out; omega); intro v6' w6 ho hb hg hat; have HB6 := Aside0.mk hb; have HO6 := Aside0.mk ho; have BK6 := Aside0.mk (blk_grown (g := w.heap.size) (o := .cells #[.int .i64 a, .int .i64 n] 31 (0, 0)) (show (wr.drewN _).heap[w.heap.size]? = _ from BK.out) hg (Kd.R_away HO.out (fun _ hk => hk))); clear ho hb hg hat))
          obtain ⟨h0, h1, h2⟩ := HJ.out
          go_roundg ((ents3 L).length - i.toNat - 1)
          case measure => omega
          case rel => exact ⟨i + 1, rfl, ⟨by omega, by omega, by omega⟩, HB6, BK6, ⟨by rw [HDL.out]; have h9 := HO6.out; simpa [ents3] using h9⟩⟩
      · have bi : decide (i < ((ents3 L).length : Int)) = false := decide_eq_false hi
        have e3 := ents3_length L
        have et : L.take i.toNat = L := List.take_of_length_le (by omega)
        have ho := HO.out
        rw [et] at ho
        obtain ⟨A6, c6, rfl⟩ := Kd.R_slice ho
        have HO2 := Aside0.mk (Kd.R_lower (base' := base) (Kd.R_mono ho (fun _ _ => trivial)) HL.out.2.2.2.2.1)
        have e6 := (HB.out.block gr (Array.getElem?_eq_some_iff.1 HHB.out).1).trans HHB.out
        have g1 := blk_f e6
        have g2 := (Array.getElem?_eq_some_iff.1 e6).1
        clear hi0 hi1 hi2 hi et ho e6
        by_cases hm : p ∈ ks L
        · have hcut := HL.out.2.2.2.1.trans (if_pos hm)
          have hlt : (delL L p).length < L.length := by
            unfold delL
            obtain ⟨v, hv⟩ := mem_ks.1 hm
            exact List.length_filter_lt_length_iff_exists.2 ⟨(p, v), hv, by simp⟩
          have e4 := ents3_length (delL L p)
          have q1 : (((ents3 (delL L p)).length : Int) == ((ents3 L).length : Int)) = false := beq_eq_false_iff_ne.2 (by omega)
          have q2 : ((ents3 (delL L p)).length == (ents3 L).length) = false := beq_eq_false_iff_ne.2 (by omega)
          have HCUT := Aside0.mk hcut
          clear hm hcut hlt e3 e4
          go_wp2
          go_ret
          rw [HCUT.out]
          exact ⟨rfl, RL.set H.out HB.out HO2.out⟩
        · have hcut := HL.out.2.2.2.1.trans (if_neg hm)
          have hde : delL L p = L := delL_over fun e he hh => hm (mem_ks.2 ⟨e.2, by rw [← hh]; exact he⟩)
          have e4 := ents3_length (delL L p)
          have q1 : (((ents3 (delL L p)).length : Int) == ((ents3 L).length : Int)) = true := beq_iff_eq.2 (by rw [hde])
          have q2 : ((ents3 (delL L p)).length == (ents3 L).length) = true := beq_iff_eq.2 (by rw [hde])
          have HCUT := Aside0.mk hcut
          clear hm hcut hde e3 e4
          go_wp2
          go_ret
          rw [HCUT.out]
          exact ⟨rfl, H.out.below HB.out, Fr.of_below HB.out gr none⟩
  · have hmay : wayfinderref01_May.f 80 a n = some false := by rw [r_May 80 (by omega), decide_eq_false hp]
    have HM := Aside0.mk hmay
    have hput : cutL L a n = (1, L) := by unfold cutL; rw [if_neg hp]
    rw [hput]
    clear h hmay hp hput hs hL hl
    go_enter Try.func21, Try.ntmps21
    go_wp2_with (first
      | (go_at_call 35; refine (wayfinderref01_May.calls 80 _ _ _ _ HM.out).mono ?_; rintro e w1 ⟨rfl, hb1⟩))
    go_ret
    have hbb := below_step ((Below.refl w.heap.size w).alloc (Nat.le_refl _) (Obj.cells #[.int .i64 a, .int .i64 n] 31)) hb1
    exact ⟨rfl, H.out.below hbb, Fr.of_below hbb gr none⟩
end Go.Proofs.Ytjffikckddijmaa
namespace Go.Proofs.Ytjffikckddijmaa
open Go.RowKit Go.Proofs.YtjffikckddijmaaW.PrintWords Go.Proofs.YtjffikckddijmaaW.PrintLast Go.Proofs.YtjffikckddijmaaW.PrintMore
open All All.BM
attribute [local go_sem] max2_int min2_int max_two min_two max_three min_three max_four min_four
set_option linter.unusedVariables false
set_option linter.unusedSimpArgs false
def Doe (w W : World) (g gr : Nat) (L M : Es) (rm : Nat) : Prop := ∃ a, TR W w.heap.size g a L rm ∧ RL W w.heap.size gr M rm ∧ Below w.heap.size w W
theorem Doe.b {w W : World} {g gr : Nat} {L M : Es} {rm : Nat} (h : Doe w W g gr L M rm) : Below w.heap.size w W := by
  obtain ⟨a, h1, h2, h3⟩ := h
  exact h3
theorem Doe.t {w W : World} {g gr : Nat} {L M : Es} {rm : Nat} (h : Doe w W g gr L M rm) : Sta w W g L rm := by
  obtain ⟨a, h1, h2, h3⟩ := h
  exact ⟨a, h1, h3⟩
theorem Doe.r {w W : World} {g gr : Nat} {L M : Es} {rm : Nat} (h : Doe w W g gr L M rm) : RL W w.heap.size gr M rm := by
  obtain ⟨a, h1, h2, h3⟩ := h
  exact h2
theorem Doe.below {w W W' : World} {g gr : Nat} {L M : Es} {rm : Nat} (h : Doe w W g gr L M rm) (hb : Below W.heap.size W W') : Doe w W' g gr L M rm := by
  obtain ⟨a, h1, h2, h3⟩ := h
  exact ⟨a, h1.below hb, h2.below hb, below_step h3 hb⟩
theorem Doe.drewN {w W : World} {g gr : Nat} {L M : Es} {rm : Nat} (h : Doe w W g gr L M rm) (n : Nat) : Doe w (W.drewN n) g gr L M rm := h.below (pw_below_drewN (Below.refl _ _) n)
theorem RL.fr {W W' : World} {base base' g gr : Nat} {a : Option Nat} {L M : Es} {rm rm' : Nat} (h : RL W base gr M rm) (ht : TR W base' g a L rm') (hF : Fr W W' g a) : RL W' base gr M rm := by
  obtain ⟨v, h1, h2, h3⟩ := h
  obtain ⟨⟨c1, t1⟩, t2⟩ := ht.typed
  have hne : ∀ (k : Nat) (cs : Array Value) (t : TypeId), W.heap[k]? = some (Obj.cells cs t (0, 0)) → t ≠ 56 → t ≠ 64 → W'.heap[k]? = W.heap[k]? := by
    intro k cs t hk h56 h64
    refine hF.block k (Array.getElem?_eq_some_iff.1 hk).1 ?_ ?_
    · rintro rfl
      rw [t1] at hk
      simp at hk
      exact h56 hk.2.symm
    · intro e
      obtain ⟨c2, t3⟩ := t2 k e.symm
      rw [t3] at hk
      simp at hk
      exact h64 hk.2.symm
  refine ⟨v, (hne gr _ _ h1 (by decide) (by decide)).trans h1, ?_, h3⟩
  refine Kd.R_mono (Kd.R_move (Kd.R_bound h2) fun k hk => ?_) (fun _ _ => trivial)
  obtain ⟨_, _, _, q, hq, cs, hc⟩ := hk
  have : q = 33 := by
    have hE : (33 :: k33.E) = [33] := rfl
    rw [hE] at hq
    simpa using hq
  subst this
  exact hne k cs 33 hc (by decide) (by decide)
theorem Doe.opT {w W : World} {g gr : Nat} {L L' M : Es} {rm : Nat} (h : Doe w W g gr L M rm) {f : Nat} {args : Array Value} {v : Value} (hc : ∀ a, TR W w.heap.size g a L rm → Calls Try.prog f args W (TrOp W w.heap.size g a v L' rm)) :
    Calls Try.prog f args W fun e W' => e = .returned v ∧ Doe w W' g gr L' M rm := by
  obtain ⟨a, h1, h2, h3⟩ := h
  refine (hc a h1).mono fun e W' ho => ?_
  obtain ⟨a', he, hT, hF, hA⟩ := ho
  exact ⟨he, a', hT, h2.fr h1 hF, Fr.belowN h3 hF h1.lt.2.1 fun k hk => (h1.lt.2.2 k hk).2⟩
theorem Doe.opR {w W : World} {g gr : Nat} {L M M' : Es} {rm : Nat} (h : Doe w W g gr L M rm) {f : Nat} {args : Array Value} {v : Value} (hc : Calls Try.prog f args W (RfOp W w.heap.size gr v M' rm)) :
    Calls Try.prog f args W fun e W' => e = .returned v ∧ Doe w W' g gr L M' rm := by
  obtain ⟨a, h1, h2, h3⟩ := h
  refine hc.mono fun e W' ho => ?_
  obtain ⟨he, hR, hF⟩ := ho
  obtain ⟨v0, q1, q2, q3⟩ := h2
  obtain ⟨⟨c1, t1⟩, t2⟩ := h1.typed
  refine ⟨he, a, h1.keep hF ?_ (by simp) fun k hk => ⟨?_, by simp⟩, hR, Fr.belowN h3 hF q3 (by simp)⟩
  · rintro rfl
    rw [t1] at q1
    simp at q1
  · rintro rfl
    obtain ⟨c2, t3⟩ := t2 k hk
    rw [t3] at q1
    simp at q1
theorem Doe.put {w W : World} {g gr : Nat} {L M : Es} {rm : Nat} (h : Doe w W g gr L M rm) (pa pn v : Int) :
    Calls Try.prog 14 #[.pointer (some ⟨g, 0, none⟩), .agg #[.int .i64 pa, .int .i64 pn], .int .i64 v] W fun e W' => e = .returned (.int .i64 (putL L rm pa pn v).1) ∧ Doe w W' g gr (putL L rm pa pn v).2 M rm := h.opT fun a ha => put_tr ha pa pn v
theorem Doe.cut {w W : World} {g gr : Nat} {L M : Es} {rm : Nat} (h : Doe w W g gr L M rm) (pa pn : Int) :
    Calls Try.prog 17 #[.pointer (some ⟨g, 0, none⟩), .agg #[.int .i64 pa, .int .i64 pn]] W fun e W' => e = .returned (.int .i64 (cutL L pa pn).1) ∧ Doe w W' g gr (cutL L pa pn).2 M rm := h.opT fun a ha => cut_tr ha pa pn
theorem Doe.rput {w W : World} {g gr : Nat} {L M : Es} {rm : Nat} (h : Doe w W g gr L M rm) (hs : Srt M) (hM : ∀ e ∈ M, e.1.length ≤ 32) (hl : M.length ≤ 90) (pa pn v : Int) :
    Calls Try.prog 20 #[.pointer (some ⟨gr, 0, none⟩), .agg #[.int .i64 pa, .int .i64 pn], .int .i64 v] W fun e W' => e = .returned (.int .i64 (putL M rm pa pn v).1) ∧ Doe w W' g gr L (putL M rm pa pn v).2 rm := h.opR (ref_put h.r hs hM hl h.b.size pa pn v)
theorem Doe.rcut {w W : World} {g gr : Nat} {L M : Es} {rm : Nat} (h : Doe w W g gr L M rm) (hs : Srt M) (hM : ∀ e ∈ M, e.1.length ≤ 32) (hl : M.length ≤ 90) (pa pn : Int) :
    Calls Try.prog 21 #[.pointer (some ⟨gr, 0, none⟩), .agg #[.int .i64 pa, .int .i64 pn]] W fun e W' => e = .returned (.int .i64 (cutL M pa pn).1) ∧ Doe w W' g gr L (cutL M pa pn).2 rm := h.opR (ref_cut h.r hs hM hl h.b.size pa pn)
theorem Doe.find {w W : World} {g gr : Nat} {L M : Es} {rm : Nat} (h : Doe w W g gr L M rm) (x : Int) {r : Option (K × Int)} (hr : FindSpec (K32 x) L r) :
    Calls Try.prog 16 #[.pointer (some ⟨g, 0, none⟩), .int .i64 x] W fun e W' => e = .returned (.tuple #[.agg #[.int .i64 (bestA r), .int .i64 (bestN r), .int .i64 (bestV r)], .bool r.isSome]) ∧ Doe w W' g gr L M rm ∧ Below W.heap.size W W' :=
  (find_st h.t x hr).mono fun e W' ⟨he, _, hb⟩ => ⟨he, h.below hb, hb⟩
theorem Doe.rfind {w W : World} {g gr : Nat} {L M : Es} {rm : Nat} (h : Doe w W g gr L M rm) (hs : Srt M) (hM : ∀ e ∈ M, e.1.length ≤ 32) (hl : M.length ≤ 90) (x : Int) {r : Option (K × Int)} (hr : FindSpec (K32 x) M r) :
    Calls Try.prog 22 #[.pointer (some ⟨gr, 0, none⟩), .int .i64 x] W fun e W' => e = .returned (.tuple #[.agg #[.int .i64 (bestA r), .int .i64 (bestN r), .int .i64 (bestV r)], .bool r.isSome]) ∧ Doe w W' g gr L M rm ∧ Below W.heap.size W W' :=
  (ref_find h.r hs hM hl x hr).mono fun e W' ⟨he, hb⟩ => ⟨he, h.below hb, hb⟩
set_option maxHeartbeats 4000000 in
theorem ref_new (x : Int) (w : World) : Calls Try.prog 19 #[.int .i64 x] w fun e w' => e = .returned (.pointer (some ⟨w.heap.size, 0, none⟩)) ∧ w' = w.alloc (.cells #[.slice none 0 0, .int .i64 (bd1000 x)] 49) := by
  have hb : bd1000 x = min (max x 0) 1000 := rfl
  by_cases h0 : x < 0
  · have b0 : decide (x < 0) = true := decide_eq_true h0
    have e : bd1000 x = 0 := by omega
    rw [e]
    clear h0 hb e
    go_enter Try.func19, Try.ntmps19
    go_wp2
    go_ret
    exact ⟨rfl, rfl⟩
  · have b0 : decide (x < 0) = false := decide_eq_false h0
    by_cases h1 : 1000 < x
    · have b1 : decide (1000 < x) = true := decide_eq_true h1
      have e : bd1000 x = 1000 := by omega
      rw [e]
      clear h0 hb e h1
      go_enter Try.func19, Try.ntmps19
      go_wp2
      go_ret
      exact ⟨rfl, rfl⟩
    · have b1 : decide (1000 < x) = false := decide_eq_false h1
      have e : bd1000 x = x := by omega
      rw [e]
      clear h0 hb e h1
      go_enter Try.func19, Try.ntmps19
      go_wp2
      go_ret
      exact ⟨rfl, rfl⟩
theorem Sta.doe {w W : World} {g : Nat} (x : Int) (h : Sta w W g [] (bd1000 x).toNat) : Calls Try.prog 19 #[.int .i64 x] W fun e W' => e = .returned (.pointer (some ⟨W.heap.size, 0, none⟩)) ∧ Doe w W' g W.heap.size [] [] (bd1000 x).toNat := by
  obtain ⟨a, h1, hB⟩ := h
  refine (ref_new x W).mono fun e W' ⟨he, hw⟩ => ?_
  subst hw
  have hb := (Below.refl W.heap.size W).alloc (Nat.le_refl _) (Obj.cells #[.slice none 0 0, .int .i64 (bd1000 x)] 49)
  have hc : ((bd1000 x).toNat : Int) = bd1000 x := by unfold bd1000; omega
  refine ⟨he, a, h1.below hb, ⟨.slice none 0 0, ?_, Kd.R_nil _ _ _ _ _, hB.size⟩, below_step hB hb⟩
  rw [hc]
  exact heap_alloc_new W _
end Go.Proofs.Ytjffikckddijmaa
