/-
  Chapter 7: Find.
-/
import Derived.Test.YtjffikckddijmaaQ1TgU
namespace Go.Proofs.Ytjffikckddijmaa
open Go.RowKit Go.Proofs.YtjffikckddijmaaW.PrintWords Go.Proofs.YtjffikckddijmaaW.PrintLast Go.Proofs.YtjffikckddijmaaW.PrintMore
open All All.BM
attribute [local go_sem] max2_int min2_int max_two min_two max_three min_three max_four min_four
set_option linter.unusedVariables false
set_option linter.unusedSimpArgs false
def bestA (b : Option (K × Int)) : Int := match b with | some e => (ad e.1 : Int) | none => 0
def bestN (b : Option (K × Int)) : Int := match b with | some e => (e.1.length : Int) | none => 0
def bestV (b : Option (K × Int)) : Int := match b with | some e => e.2 | none => 0
def bestCs (b : Option (K × Int)) : Array Value := #[.int .i64 (bestA b), .int .i64 (bestN b), .int .i64 (bestV b)]
def FindP (w : World) (r : Option (K × Int)) (e : Ending) (w' : World) : Prop := e = .returned (.tuple #[.agg #[.int .i64 (bestA r), .int .i64 (bestN r), .int .i64 (bestV r)], .bool r.isSome]) ∧ Below w.heap.size w w'
set_option maxHeartbeats 4000000 in
set_option maxRecDepth 100000 in
theorem find_empty {w : World} {base g : Nat} {sl : Value} {s : St} (h : TM w base g sl s) (hu : s.used = 0) (a : Int) : Calls Try.prog 16 #[.pointer (some ⟨g, 0, none⟩), .int .i64 a] w (FindP w none) := by
  have H := Aside0.mk h
  have hu1 : (s.used == 0) = true := by simpa using hu
  clear h hu
  go_enter Try.func16, Try.ntmps16
  go_wp2_with (first | (go_at_call 31; refine (empty_any (base := base) (sl := sl) (s := s) ?hT).mono ?_; (case hT => repeat (first | exact H.out | apply TM.alloc)); rintro e w2 ⟨rfl, rfl⟩))
  exact bodyPost_ret (v := .tuple #[.agg #[.int .i64 0, .int .i64 0, .int .i64 0], .bool false]) (by simp [results, Try.results16, go_sem]) rfl ⟨rfl, ((Below.refl _ _).alloc (Nat.le_refl _) _).alloc (by simp) _⟩
theorem find_nd {A : K} {b : Option (K × Int)} {i : Nat} {q : K} {s : Option Int} {l r : T} (h : q.isPrefixOf A = true) : T.find A b (.nd i q s l r) = T.find A (match s with | some v => some (q, v) | none => b) (if bitOf A q.length then r else l) := by
  rw [T.find.eq_def]
  simp only [h, ↓reduceIte]
  cases s <;> rfl
theorem find_not {A : K} {b : Option (K × Int)} {i : Nat} {q : K} {s : Option Int} {l r : T} (h : q.isPrefixOf A = false) : T.find A b (.nd i q s l r) = b := by
  rw [T.find.eq_def]
  simp only [h, Bool.false_eq_true, ↓reduceIte]
theorem find_leaf (A : K) (b : Option (K × Int)) : T.find A b .nil = b := by rw [T.find.eq_def]
theorem find_below {w w5 : World} (h : Below w.heap.size w w5) (nz : Nat) (x y z : Value) : Below w.heap.size w ((((w5.setCell ⟨w.heap.size + 1, 0, none⟩ x).setCell ⟨w.heap.size + 1, 1, none⟩ y).setCell ⟨w.heap.size + 1, 2, none⟩ z).drewN nz) :=
  pw_below_drewN (((h.setCell (p := ⟨w.heap.size + 1, 0, none⟩) (Nat.le_succ _) _).setCell (p := ⟨w.heap.size + 1, 1, none⟩) (Nat.le_succ _) _).setCell (p := ⟨w.heap.size + 1, 2, none⟩) (Nat.le_succ _) _) nz
theorem find_b4 {w w5 : World} {o : Obj} (h : w5.heap[w.heap.size]? = some o) (nz : Nat) (x y z : Value) : ((((w5.setCell ⟨w.heap.size + 1, 0, none⟩ x).setCell ⟨w.heap.size + 1, 1, none⟩ y).setCell ⟨w.heap.size + 1, 2, none⟩ z).drewN nz).heap[w.heap.size]? = some o := by
  show (((w5.setCell ⟨w.heap.size + 1, 0, none⟩ x).setCell ⟨w.heap.size + 1, 1, none⟩ y).setCell ⟨w.heap.size + 1, 2, none⟩ z).heap[w.heap.size]? = some o
  rw [Below.heap_setCell _ _ _ _ (by simp), Below.heap_setCell _ _ _ _ (by simp), Below.heap_setCell _ _ _ _ (by simp)]
  exact h
theorem find_b6 {w w5 : World} {bst : Option (K × Int)} (h : w5.heap[w.heap.size + 1]? = some (.cells (bestCs bst) 33 (0, 0))) (nz : Nat) (q : K) (v : Int) :
    ((((w5.setCell ⟨w.heap.size + 1, 0, none⟩ (.int .i64 (ad q))).setCell ⟨w.heap.size + 1, 1, none⟩ (.int .i64 q.length)).setCell ⟨w.heap.size + 1, 2, none⟩ (.int .i64 v)).drewN nz).heap[w.heap.size + 1]? = some (.cells (bestCs (some (q, v))) 33 (0, 0)) := by
  show (((w5.setCell ⟨w.heap.size + 1, 0, none⟩ (.int .i64 (ad q))).setCell ⟨w.heap.size + 1, 1, none⟩ (.int .i64 q.length)).setCell ⟨w.heap.size + 1, 2, none⟩ (.int .i64 v)).heap[w.heap.size + 1]? = _
  simp [World.setCell, Array.getElem?_modify, h, bestCs, bestA, bestN, bestV]
set_option maxHeartbeats 4000000 in
set_option maxRecDepth 100000 in
theorem find_go {w : World} {base g : Nat} {sl : Value} {s : St} (h : TM w base g sl s) {t : T} {fl : List Nat} (hR : Rep0 s t fl) (hu : s.used ≠ 0) (a : Int) : Calls Try.prog 16 #[.pointer (some ⟨g, 0, none⟩), .int .i64 a] w (FindP w (T.find (K32 a) none t)) := by
  have H := Aside0.mk h
  have HR := Aside0.mk hR
  have hu1 : (s.used == 0) = false := by simpa using hu
  have hg := h.lt
  obtain ⟨c0, c1, c2, c3, c4⟩ := h.cs
  clear h hu hR
  go_enter Try.func16, Try.ntmps16
  go_wp2_with (first | (go_at_call 31; refine (empty_any (base := base) (sl := sl) (s := s) ?hT).mono ?_; (case hT => repeat (first | exact H.out | apply TM.alloc)); rintro e w2 ⟨rfl, rfl⟩))
  go_loopg [7, 8] t.size (fun k v7 v8 wr => ∃ (S : T) (at_ : Int) (bst : Option (K × Int)), v7 = .bool bst.isSome ∧ v8 = .int .i64 at_ ∧
    Aside0 (k = S.size ∧ Holds s.ns at_ S ∧ Short S ∧ T.find (K32 a) bst S = T.find (K32 a) none t) ∧ Aside0 (Below w.heap.size w wr ∧
    wr.heap[w.heap.size]? = some (.cells #[.int .i64 0, .int .i64 0, .int .i64 0] 33 (0, 0)) ∧ wr.heap[w.heap.size + 1]? = some (.cells (bestCs bst) 33 (0, 0))))
  case atStart =>
    refine ⟨t, s.root, none, rfl, rfl, ⟨rfl, HR.out.holds, HR.out.short, rfl⟩, ⟨((Below.refl _ _).alloc (Nat.le_refl _) _).alloc (by simp) _, ?_, ?_⟩⟩
    · exact (Below.heap_alloc _ _ _ (by simp)).trans (heap_alloc_new w _)
    · have := heap_alloc_new (w.alloc (.cells #[.int .i64 0, .int .i64 0, .int .i64 0] 33)) (.cells #[.int .i64 0, .int .i64 0, .int .i64 0] 33)
      show _ = some (Obj.cells #[.int .i64 0, .int .i64 0, .int .i64 0] 33 (0, 0))
      simpa using this
  case round =>
    obtain ⟨S, at_, bst, rfl, rfl, ⟨hgk, hS, hsh, hsk⟩, ⟨hB, B4, B6⟩⟩ := hrel
    clear c0 c1 c2 c3 c4
    have H1 := H.out.below hB
    obtain ⟨c0, c1, c2, c3, c4⟩ := H1.cs
    have r0 : wr.cell? ⟨w.heap.size, 0, none⟩ = some (.int .i64 0) := blk_c B4 0
    have r1 : wr.cell? ⟨w.heap.size, 1, none⟩ = some (.int .i64 0) := blk_c B4 1
    have r2 : wr.cell? ⟨w.heap.size, 2, none⟩ = some (.int .i64 0) := blk_c B4 2
    have s0 : wr.cell? ⟨w.heap.size + 1, 0, none⟩ = some (.int .i64 (bestA bst)) := blk_c B6 0
    have s1 : wr.cell? ⟨w.heap.size + 1, 1, none⟩ = some (.int .i64 (bestN bst)) := blk_c B6 1
    have s2 : wr.cell? ⟨w.heap.size + 1, 2, none⟩ = some (.int .i64 (bestV bst)) := blk_c B6 2
    have f4 := blk_f B4
    have f6 := blk_f B6
    have hz4 := (Array.getElem?_eq_some_iff.1 B4).1
    have hz6 := (Array.getElem?_eq_some_iff.1 B6).1
    have HBK := Aside0.mk (And.intro hB (And.intro B4 B6))
    cases S with
    | nil =>
      obtain rfl : at_ = -1 := hS
      have HSK := Aside0.mk hsk
      clear hsk hB B4 B6 H1
      go_wp2
      refine bodyPost_ret (v := .tuple #[.agg #[.int .i64 (bestA bst), .int .i64 (bestN bst), .int .i64 (bestV bst)], .bool bst.isSome]) (by simp [results, Try.results16, go_sem, r0, r1, r2]) rfl ⟨by rw [← HSK.out, find_leaf], ?_⟩
      exact ((HBK.out.1.setCell (p := ⟨w.heap.size, 0, none⟩) (Nat.le_refl _) _).setCell (p := ⟨w.heap.size, 1, none⟩) (Nat.le_refl _) _).setCell (p := ⟨w.heap.size, 2, none⟩) (Nat.le_refl _) _
    | nd i q sv l r =>
      obtain ⟨rfl, x, hx, hnd, hl, hr⟩ := hS
      obtain ⟨ab, cap, e, hba, hab, hag, hi, d0, d1, d2, d3, d4, d5, hfz⟩ := H1.node hx
      have hcap := H1.few
      rw [e] at c0
      rw [hnd.a] at d0
      rw [hnd.n] at d1
      have hm1 : ((i : Int) != -1) = true := by rw [bne_iff_ne]; omega
      have hq := hsh.own
      have hhas := t_Has hq a
      have hbit := t_Bit a q.length
      have HX := Aside0.mk (And.intro hx (And.intro hnd (And.intro hl (And.intro hr (And.intro hsh (And.intro hsk hgk))))))
      cases hpre : q.isPrefixOf (K32 a)
      · rw [hpre] at hhas
        have HH := Aside0.mk hhas
        have HSK := Aside0.mk (hsk.symm.trans (find_not hpre))
        clear hx hnd hl hr hsk hgk e hhas hbit hpre hB B4 B6 H1 hsh
        go_wp2_with (first | (go_at_call 32; refine (bits_Has.calls _ _ _ _ _ HH.out).mono ?_; rintro e w5 ⟨rfl, hb5⟩; have hBB : Below wr.heap.size wr w5 := below_then (by repeat (first | exact Below.refl _ _ | apply below_alloc)) (by simp) hb5; have r0' := pw_cell_below hBB r0; have r1' := pw_cell_below hBB r1; have r2' := pw_cell_below hBB r2; have s0' := pw_cell_below hBB s0; have s1' := pw_cell_below hBB s1; have s2' := pw_cell_below hBB s2; have f4' := blk_f ((hBB.block _ hz4).trans HBK.out.2.1); have HB5 := Aside0.mk (below_step HBK.out.1 hBB); clear hb5 hBB))
        refine bodyPost_ret (v := .tuple #[.agg #[.int .i64 (bestA bst), .int .i64 (bestN bst), .int .i64 (bestV bst)], .bool bst.isSome]) (by simp [results, Try.results16, go_sem, r0', r1', r2']) rfl ⟨by rw [HSK.out], ?_⟩
        exact ((HB5.out.setCell (p := ⟨w.heap.size, 0, none⟩) (Nat.le_refl _) _).setCell (p := ⟨w.heap.size, 1, none⟩) (Nat.le_refl _) _).setCell (p := ⟨w.heap.size, 2, none⟩) (Nat.le_refl _) _
      · rw [hpre] at hhas
        have HH := Aside0.mk hhas
        have HPRE := Aside0.mk hpre
        cases sv with
        | none =>
          rw [hnd.b] at d4
          simp only [Option.isSome] at d4
          clear hx hnd hl hr hsk hgk e hhas hpre hB B4 B6 H1 hsh
          cases hb : bitOf (K32 a) q.length
          · rw [hb] at hbit
            have HQ := Aside0.mk hbit
            have HBIT := Aside0.mk hb
            clear hbit hb
            go_wp2_with (first | (go_at_call 32; refine (bits_Has.calls _ _ _ _ _ HH.out).mono ?_; rintro e w5 ⟨rfl, hb5⟩; have hBB : Below wr.heap.size wr w5 := below_then (by repeat (first | exact Below.refl _ _ | apply below_alloc)) (by simp) hb5; have n0 : w5.cell? ⟨wr.heap.size, 0, none⟩ = some (.int .i64 (ad q)) := pw_cell_below hb5 (by go_simp); have n1 : w5.cell? ⟨wr.heap.size, 1, none⟩ = some (.int .i64 q.length) := pw_cell_below hb5 (by go_simp); have n2 : w5.cell? ⟨wr.heap.size, 2, none⟩ = some (.int .i64 x.k0) := pw_cell_below hb5 (by go_simp); have n3 : w5.cell? ⟨wr.heap.size, 3, none⟩ = some (.int .i64 x.k1) := pw_cell_below hb5 (by go_simp); have n4 : w5.cell? ⟨wr.heap.size, 4, none⟩ = some (.bool false) := pw_cell_below hb5 (by go_simp); have n5 : w5.cell? ⟨wr.heap.size, 5, none⟩ = some (.int .i64 x.v) := pw_cell_below hb5 (by go_simp); have s0' := pw_cell_below hBB s0; have s1' := pw_cell_below hBB s1; have s2' := pw_cell_below hBB s2; have B4' := (hBB.block _ hz4).trans HBK.out.2.1; have B6' := (hBB.block _ hz6).trans HBK.out.2.2; have f6' := blk_f B6'; have hz5 := World.block_lt_of_cell? w5 _ n0; have HB5 := Aside0.mk (below_step HBK.out.1 hBB); have B4' := Aside0.mk B4'; have B6' := Aside0.mk B6'; clear hb5 hBB) | (go_at_call 29; refine (bits_Bit.calls _ _ _ _ HQ.out).mono ?_; rintro e w6 ⟨rfl, ⟨nz, rfl⟩⟩))
            obtain ⟨hx, hnd, hl, hr, hsh, hsk, hgk⟩ := HX.out
            go_roundg l.size
            case measure => rw [hgk]; simp only [T.size]; omega
            case rel =>
              refine ⟨l, x.k0, bst, rfl, rfl, ⟨rfl, hl, hsh.left, by rw [← hsk, find_nd HPRE.out, HBIT.out]; rfl⟩, ⟨?_, ?_, ?_⟩⟩
              · repeat (first | exact HB5.out | apply pw_below_drewN)
              · exact B4'.out
              · exact B6'.out
          · rw [hb] at hbit
            have HQ := Aside0.mk hbit
            have HBIT := Aside0.mk hb
            clear hbit hb
            go_wp2_with (first | (go_at_call 32; refine (bits_Has.calls _ _ _ _ _ HH.out).mono ?_; rintro e w5 ⟨rfl, hb5⟩; have hBB : Below wr.heap.size wr w5 := below_then (by repeat (first | exact Below.refl _ _ | apply below_alloc)) (by simp) hb5; have n0 : w5.cell? ⟨wr.heap.size, 0, none⟩ = some (.int .i64 (ad q)) := pw_cell_below hb5 (by go_simp); have n1 : w5.cell? ⟨wr.heap.size, 1, none⟩ = some (.int .i64 q.length) := pw_cell_below hb5 (by go_simp); have n2 : w5.cell? ⟨wr.heap.size, 2, none⟩ = some (.int .i64 x.k0) := pw_cell_below hb5 (by go_simp); have n3 : w5.cell? ⟨wr.heap.size, 3, none⟩ = some (.int .i64 x.k1) := pw_cell_below hb5 (by go_simp); have n4 : w5.cell? ⟨wr.heap.size, 4, none⟩ = some (.bool false) := pw_cell_below hb5 (by go_simp); have n5 : w5.cell? ⟨wr.heap.size, 5, none⟩ = some (.int .i64 x.v) := pw_cell_below hb5 (by go_simp); have s0' := pw_cell_below hBB s0; have s1' := pw_cell_below hBB s1; have s2' := pw_cell_below hBB s2; have B4' := (hBB.block _ hz4).trans HBK.out.2.1; have B6' := (hBB.block _ hz6).trans HBK.out.2.2; have f6' := blk_f B6'; have hz5 := World.block_lt_of_cell? w5 _ n0; have HB5 := Aside0.mk (below_step HBK.out.1 hBB); have B4' := Aside0.mk B4'; have B6' := Aside0.mk B6'; clear hb5 hBB) | (go_at_call 29; refine (bits_Bit.calls _ _ _ _ HQ.out).mono ?_; rintro e w6 ⟨rfl, ⟨nz, rfl⟩⟩))
            obtain ⟨hx, hnd, hl, hr, hsh, hsk, hgk⟩ := HX.out
            go_roundg r.size
            case measure => rw [hgk]; simp only [T.size]; omega
            case rel =>
              refine ⟨r, x.k1, bst, rfl, rfl, ⟨rfl, hr, hsh.right, by rw [← hsk, find_nd HPRE.out, HBIT.out]; rfl⟩, ⟨?_, ?_, ?_⟩⟩
              · repeat (first | exact HB5.out | apply pw_below_drewN)
              · exact B4'.out
              · exact B6'.out
        | some v =>
          rw [hnd.b] at d4
          simp only [Option.isSome] at d4
          rw [hnd.v v rfl] at d5
          clear hx hnd hl hr hsk hgk e hhas hpre hB B4 B6 H1 hsh
          cases hb : bitOf (K32 a) q.length
          · rw [hb] at hbit
            have HQ := Aside0.mk hbit
            have HBIT := Aside0.mk hb
            clear hbit hb
            go_wp2_with (first | (go_at_call 32; refine (bits_Has.calls _ _ _ _ _ HH.out).mono ?_; rintro e w5 ⟨rfl, hb5⟩; have hBB : Below wr.heap.size wr w5 := below_then (by repeat (first | exact Below.refl _ _ | apply below_alloc)) (by simp) hb5; have n0 : w5.cell? ⟨wr.heap.size, 0, none⟩ = some (.int .i64 (ad q)) := pw_cell_below hb5 (by go_simp); have n1 : w5.cell? ⟨wr.heap.size, 1, none⟩ = some (.int .i64 q.length) := pw_cell_below hb5 (by go_simp); have n2 : w5.cell? ⟨wr.heap.size, 2, none⟩ = some (.int .i64 x.k0) := pw_cell_below hb5 (by go_simp); have n3 : w5.cell? ⟨wr.heap.size, 3, none⟩ = some (.int .i64 x.k1) := pw_cell_below hb5 (by go_simp); have n4 : w5.cell? ⟨wr.heap.size, 4, none⟩ = some (.bool true) := pw_cell_below hb5 (by go_simp); have n5 : w5.cell? ⟨wr.heap.size, 5, none⟩ = some (.int .i64 v) := pw_cell_below hb5 (by go_simp); have s0' := pw_cell_below hBB s0; have s1' := pw_cell_below hBB s1; have s2' := pw_cell_below hBB s2; have B4' := (hBB.block _ hz4).trans HBK.out.2.1; have B6' := (hBB.block _ hz6).trans HBK.out.2.2; have f6' := blk_f B6'; have hz5 := World.block_lt_of_cell? w5 _ n0; have HB5 := Aside0.mk (below_step HBK.out.1 hBB); have B4' := Aside0.mk B4'; have B6' := Aside0.mk B6'; clear hb5 hBB) | (go_at_call 29; refine (bits_Bit.calls _ _ _ _ HQ.out).mono ?_; rintro e w6 ⟨rfl, ⟨nz, rfl⟩⟩))
            obtain ⟨hx, hnd, hl, hr, hsh, hsk, hgk⟩ := HX.out
            go_roundg l.size
            case measure => rw [hgk]; simp only [T.size]; omega
            case rel =>
              refine ⟨l, x.k0, (some (q, v)), rfl, rfl, ⟨rfl, hl, hsh.left, by rw [← hsk, find_nd HPRE.out, HBIT.out]; rfl⟩, ⟨?_, ?_, ?_⟩⟩
              · exact find_below HB5.out nz _ _ _
              · exact find_b4 B4'.out nz _ _ _
              · exact find_b6 B6'.out nz q v
          · rw [hb] at hbit
            have HQ := Aside0.mk hbit
            have HBIT := Aside0.mk hb
            clear hbit hb
            go_wp2_with (first | (go_at_call 32; refine (bits_Has.calls _ _ _ _ _ HH.out).mono ?_; rintro e w5 ⟨rfl, hb5⟩; have hBB : Below wr.heap.size wr w5 := below_then (by repeat (first | exact Below.refl _ _ | apply below_alloc)) (by simp) hb5; have n0 : w5.cell? ⟨wr.heap.size, 0, none⟩ = some (.int .i64 (ad q)) := pw_cell_below hb5 (by go_simp); have n1 : w5.cell? ⟨wr.heap.size, 1, none⟩ = some (.int .i64 q.length) := pw_cell_below hb5 (by go_simp); have n2 : w5.cell? ⟨wr.heap.size, 2, none⟩ = some (.int .i64 x.k0) := pw_cell_below hb5 (by go_simp); have n3 : w5.cell? ⟨wr.heap.size, 3, none⟩ = some (.int .i64 x.k1) := pw_cell_below hb5 (by go_simp); have n4 : w5.cell? ⟨wr.heap.size, 4, none⟩ = some (.bool true) := pw_cell_below hb5 (by go_simp); have n5 : w5.cell? ⟨wr.heap.size, 5, none⟩ = some (.int .i64 v) := pw_cell_below hb5 (by go_simp); have s0' := pw_cell_below hBB s0; have s1' := pw_cell_below hBB s1; have s2' := pw_cell_below hBB s2; have B4' := (hBB.block _ hz4).trans HBK.out.2.1; have B6' := (hBB.block _ hz6).trans HBK.out.2.2; have f6' := blk_f B6'; have hz5 := World.block_lt_of_cell? w5 _ n0; have HB5 := Aside0.mk (below_step HBK.out.1 hBB); have B4' := Aside0.mk B4'; have B6' := Aside0.mk B6'; clear hb5 hBB) | (go_at_call 29; refine (bits_Bit.calls _ _ _ _ HQ.out).mono ?_; rintro e w6 ⟨rfl, ⟨nz, rfl⟩⟩))
            obtain ⟨hx, hnd, hl, hr, hsh, hsk, hgk⟩ := HX.out
            go_roundg r.size
            case measure => rw [hgk]; simp only [T.size]; omega
            case rel =>
              refine ⟨r, x.k1, (some (q, v)), rfl, rfl, ⟨rfl, hr, hsh.right, by rw [← hsk, find_nd HPRE.out, HBIT.out]; rfl⟩, ⟨?_, ?_, ?_⟩⟩
              · exact find_below HB5.out nz _ _ _
              · exact find_b4 B4'.out nz _ _ _
              · exact find_b6 B6'.out nz q v
end Go.Proofs.Ytjffikckddijmaa
