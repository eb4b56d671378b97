/-
  Chapter 7: a trie in memory, written.
-/
import Derived.Test.YtjffikckddijmaaQ1TgC
import Derived.Deep.RegionLaw
namespace Go.Proofs.Ytjffikckddijmaa
open Go.RowKit Go.Proofs.YtjffikckddijmaaW.PrintWords Go.Proofs.YtjffikckddijmaaW.PrintLast Go.Proofs.YtjffikckddijmaaW.PrintMore
set_option linter.unusedVariables false
set_option linter.unusedSimpArgs false
theorem own_put {w : World} {base : Nat} {e : TypeId} {size n ab cap j : Nat} {xs : List Value} (u : Value) (h : w.ownsRow base e size (.slice (some ⟨ab, 0, none⟩) n cap) n xs) (hj : j < n * size) :
    (w.setCell ⟨ab, j, none⟩ u).ownsRow base e size (.slice (some ⟨ab, 0, none⟩) n cap) n (xs.set j u) := by
  obtain ⟨h1, h2⟩ := h
  refine ⟨by simpa using h1, .inr ?_⟩
  rcases h2 with ⟨h2, h3⟩ | ⟨g, cap', cur, he, hb, hh, hn, hm, hs, ht⟩
  · cases h2
  · injection he with he _ hc
    injection he with he
    injection he with he
    subst he
    subst hc
    refine ⟨ab, cap, cur.setIfInBounds j u, rfl, hb, ?_, hn, hm, by simpa using hs, ?_⟩
    · simp [World.setCell, Array.getElem?_modify, hh]
    · rw [← ht, Array.toList_setIfInBounds, List.take_set]
theorem TM.setNode {w : World} {base g ab cap i j : Nat} {s : St} {x y : Nd} {u : Value} (h : TM w base g (.slice (some ⟨ab, 0, none⟩) s.ns.length cap) s) (hx : s.ns[i]? = some x) (hj : j < 6) (hs : x.cells.set j u = y.cells) :
    TM (w.setCell ⟨ab, i * 6 + j, none⟩ u) base g (.slice (some ⟨ab, 0, none⟩) s.ns.length cap) { s with ns := s.ns.set i y } := by
  have hne : ab ≠ g := fun e => h.apart (by rw [e]; rfl)
  have hi : i < s.ns.length := (List.getElem?_eq_some_iff.1 hx).1
  have hr := own_put (j := i * 6 + j) u h.row (by omega)
  rw [rows_set hx hj hs] at hr
  refine ⟨?_, by simpa using hr, h.bg, by simpa using h.few, h.apart⟩
  exact (Below.heap_setCell _ _ _ _ (Ne.symm hne)).trans h.blk
theorem TM.setStruct {w : World} {base g j : Nat} {sl : Value} {s s' : St} (h : TM w base g sl s) (u : Value) (hn : s'.ns = s.ns) (hs : (s.cells sl).setIfInBounds j u = s'.cells sl) :
    TM (w.setCell ⟨g, j, none⟩ u) base g sl s' := by
  refine ⟨?_, ?_, h.bg, by rw [hn]; exact h.few, h.apart⟩
  · rw [← hs]
    simp [World.setCell, Array.getElem?_modify, h.blk]
  · rw [hn]
    exact own_setCell h.row (fun e => h.apart e.symm) u
theorem Fr.set {w w1 : World} {g : Nat} {a : Option Nat} (h : Fr w w1 g a) {p : Addr} (hp : p.block = g ∨ some p.block = a ∨ w.heap.size ≤ p.block) (u : Value) : Fr w (w1.setCell p u) g a :=
  ⟨h.os, h.tape, h.output, by simpa [World.setCell] using h.size, fun k hk hg hka => (Below.heap_setCell w1 p u k (by
    rintro rfl
    rcases hp with hp | hp | hp
    · exact hg hp
    · exact hka hp
    · omega)).trans (h.block k hk hg hka)⟩
theorem Fr.alloc {w w1 : World} {g : Nat} {a : Option Nat} (h : Fr w w1 g a) (o : Obj) : Fr w (w1.alloc o) g a :=
  ⟨h.os, h.tape, h.output, Nat.le_trans h.size (by simp), fun k hk hg hka => (Below.heap_alloc w1 o k (Nat.lt_of_lt_of_le hk h.size)).trans (h.block k hk hg hka)⟩
theorem Fr.drew {w w1 : World} {g : Nat} {a : Option Nat} (h : Fr w w1 g a) : Fr w w1.drew g a := ⟨h.os, h.tape, h.output, h.size, h.block⟩
theorem Fr.drewN {w w1 : World} {g : Nat} {a : Option Nat} (h : Fr w w1 g a) (n : Nat) : Fr w (w1.drewN n) g a := ⟨h.os, h.tape, h.output, h.size, h.block⟩
theorem TM.drew {w : World} {base g : Nat} {sl : Value} {s : St} (h : TM w base g sl s) : TM w.drew base g sl s := ⟨h.blk, h.row, h.bg, h.few, h.apart⟩
theorem TM.drewN {w : World} {base g : Nat} {sl : Value} {s : St} (h : TM w base g sl s) (n : Nat) : TM (w.drewN n) base g sl s := ⟨h.blk, h.row, h.bg, h.few, h.apart⟩
theorem TM.alloc {w : World} {base g : Nat} {sl : Value} {s : St} (h : TM w base g sl s) (o : Obj) : TM (w.alloc o) base g sl s := h.below ((Below.refl _ _).alloc (Nat.le_refl _) o)
theorem Fr.grown {w w1 w2 : World} {g : Nat} {a row : Option Nat} (h : Fr w w1 g a) (hg : w1.grownBy w2 row) (hr : row = none ∨ row = a ∨ row = some g ∨ ∃ b, row = some b ∧ w.heap.size ≤ b) : Fr w w2 g a :=
  ⟨hg.os.trans h.os, hg.tape.trans h.tape, hg.output.trans h.output, Nat.le_trans h.size hg.size, fun k hk hkg hka => (hg.block k (Nat.lt_of_lt_of_le hk h.size) (by
    rintro e
    rcases hr with hr | hr | hr | ⟨b, hr, hb⟩
    · rw [← e] at hr; cases hr
    · exact hka (e.trans hr)
    · exact hkg (by rw [hr] at e; injection e)
    · rw [hr] at e; injection e; omega)).trans (h.block k hk hkg hka)⟩
theorem Fr.keep {w w1 : World} {g : Nat} {a : Option Nat} (h : Fr w w1 g a) {k : Nat} {o : Obj} (hk : w.heap[k]? = some o) (hg : k ≠ g) (ha : some k ≠ a) : w1.heap[k]? = some o :=
  (h.block k (Array.getElem?_eq_some_iff.1 hk).1 hg ha).trans hk
def Nd.zero : Nd := ⟨0, 0, 0, 0, false, 0⟩
def St.add (s : St) (x : Nd) : Int × St :=
  if s.free = -1 then ((s.ns.length : Int), { s with ns := s.ns ++ [x], used := s.used + 1 })
  else (s.free, { s with ns := s.ns.set s.free.toNat x, free := (s.ns.getD s.free.toNat Nd.zero).k0, used := s.used + 1 })
def St.drop (s : St) (i : Nat) : St := { s with ns := s.ns.set i ⟨0, 0, s.free, -1, false, 0⟩, free := (i : Int), used := s.used - 1 }
end Go.Proofs.Ytjffikckddijmaa
namespace Go.Proofs.Ytjffikckddijmaa
open Go.RowKit Go.Proofs.YtjffikckddijmaaW.PrintWords Go.Proofs.YtjffikckddijmaaW.PrintLast Go.Proofs.YtjffikckddijmaaW.PrintMore
attribute [local go_sem] max2_int min2_int max_two min_two max_three min_three max_four min_four
set_option linter.unusedVariables false
set_option linter.unusedSimpArgs false
theorem Try.info64 : (Try.prog.info? 64).map (fun i => (i.zero, i.size, i.bytes)) = some (some (.agg #[.int .i64 0, .int .i64 0, .int .i64 0, .int .i64 0, .bool false, .int .i64 0]), 6, 48) := by kernel_rfl
theorem TM.appended {W w1 : World} {base g gg cap : Nat} {sl : Value} {s : St} {x : Nd} {o : Obj} (H1 : TM W base g sl s) (hown1 : w1.ownsRow base 64 6 (.slice (some ⟨gg, 0, none⟩) (s.ns.length + 1) cap) (s.ns.length + 1) (rows s.ns ++ x.cells))
    (hgrow : (W.alloc o).drew.grownBy w1 sl.ownBlock) (hat : sl.ownBlock = some gg ∨ gg = W.heap.size + 1) (hn : s.ns.length < 1000) :
    TM (w1.setCell ⟨g, 0, none⟩ (.slice (some ⟨gg, 0, none⟩) (s.ns.length + 1) cap)) base g (.slice (some ⟨gg, 0, none⟩) (s.ns.length + 1) cap) { s with ns := s.ns ++ [x] } ∧ Fr W (w1.setCell ⟨g, 0, none⟩ (.slice (some ⟨gg, 0, none⟩) (s.ns.length + 1) cap)) g sl.ownBlock := by
  have hg := H1.lt
  have hga : some g ≠ sl.ownBlock := fun e => H1.apart e.symm
  have hgg : g ≠ gg := by
    rintro rfl
    rcases hat with e | e
    · exact hga e.symm
    · omega
  have hb : w1.heap[g]? = some (.cells (s.cells sl) 56 (0, 0)) := (hgrow.block g (by simp; omega) hga).trans ((((Below.refl W.heap.size W).alloc (Nat.le_refl _) o).drew.block g hg).trans H1.blk)
  refine ⟨⟨?_, ?_, H1.bg, by simp; omega, by simp [Value.ownBlock]; exact Ne.symm hgg⟩, ?_⟩
  · simp [World.setCell, Array.getElem?_modify, hb, St.cells]
  · rw [rows_append, rows_one]
    simpa using own_setCell hown1 (p := ⟨g, 0, none⟩) (by simp [Value.ownBlock]; exact hgg) _
  · refine Fr.set (.grown (((Fr.refl W g sl.ownBlock).alloc o).drew) hgrow (.inr (.inl rfl))) (.inl rfl) _
def Did (w : World) (base g : Nat) (sl : Value) (v : Value) (s' : St) (e : Ending) (w' : World) : Prop :=
  ∃ sl', e = .returned v ∧ TM w' base g sl' s' ∧ Fr w w' g sl.ownBlock ∧ (sl'.ownBlock = sl.ownBlock ∨ ∃ b, sl'.ownBlock = some b ∧ w.heap.size ≤ b)
def World.set6 (w : World) (ab o : Nat) (x : Nd) : World := (((((w.setCell ⟨ab, o, none⟩ (.int .i64 x.a)).setCell ⟨ab, o + 1, none⟩ (.int .i64 x.n)).setCell ⟨ab, o + 2, none⟩ (.int .i64 x.k0)).setCell ⟨ab, o + 3, none⟩ (.int .i64 x.k1)).setCell ⟨ab, o + 4, none⟩ (.bool x.b)).setCell ⟨ab, o + 5, none⟩ (.int .i64 x.v)
theorem TM.setNext {w : World} {base g ab cap f j : Nat} {s : St} {y z : Nd} {u : Value} (h : TM w base g (.slice (some ⟨ab, 0, none⟩) s.ns.length cap) { s with ns := s.ns.set f y }) (hf : f < s.ns.length) (hj : j < 6) (hs : y.cells.set j u = z.cells) :
    TM (w.setCell ⟨ab, f * 6 + j, none⟩ u) base g (.slice (some ⟨ab, 0, none⟩) s.ns.length cap) { s with ns := s.ns.set f z } := by
  have h1 := TM.setNode (s := { s with ns := s.ns.set f y }) (x := y) (y := z) (i := f) (j := j) (cap := cap) (ab := ab) (by simpa using h) (by simp [hf]) hj hs
  simpa using h1
theorem TM.set6 {w : World} {base g ab cap f : Nat} {s : St} {y : Nd} (h : TM w base g (.slice (some ⟨ab, 0, none⟩) s.ns.length cap) s) (hy : s.ns[f]? = some y) (x : Nd) :
    TM (World.set6 w ab (f * 6) x) base g (.slice (some ⟨ab, 0, none⟩) s.ns.length cap) { s with ns := s.ns.set f x } := by
  have hf : f < s.ns.length := (List.getElem?_eq_some_iff.1 hy).1
  have h0 := h.setNode (j := 0) (y := { y with a := x.a }) (u := .int .i64 x.a) hy (by omega) rfl
  have h1 := TM.setNext (j := 1) (z := { y with a := x.a, n := x.n }) (u := .int .i64 x.n) h0 hf (by omega) rfl
  have h2 := TM.setNext (j := 2) (z := { y with a := x.a, n := x.n, k0 := x.k0 }) (u := .int .i64 x.k0) h1 hf (by omega) rfl
  have h3 := TM.setNext (j := 3) (z := { y with a := x.a, n := x.n, k0 := x.k0, k1 := x.k1 }) (u := .int .i64 x.k1) h2 hf (by omega) rfl
  have h4 := TM.setNext (j := 4) (z := { y with a := x.a, n := x.n, k0 := x.k0, k1 := x.k1, b := x.b }) (u := .bool x.b) h3 hf (by omega) rfl
  exact TM.setNext (j := 5) (z := x) (u := .int .i64 x.v) h4 hf (by omega) rfl
theorem Fr.set6 {w w1 : World} {g ab : Nat} (h : Fr w w1 g (some ab)) (o : Nat) (x : Nd) : Fr w (World.set6 w1 ab o x) g (some ab) :=
  (((((h.set (.inr (.inl rfl)) _).set (.inr (.inl rfl)) _).set (.inr (.inl rfl)) _).set (.inr (.inl rfl)) _).set (.inr (.inl rfl)) _).set (.inr (.inl rfl)) _
def Nd.agg (x : Nd) : Value := .agg #[.int .i64 x.a, .int .i64 x.n, .int .i64 x.k0, .int .i64 x.k1, .bool x.b, .int .i64 x.v]
set_option maxHeartbeats 4000000 in
set_option maxRecDepth 100000 in
theorem node_append {w : World} {base g : Nat} {sl : Value} {s : St} (h : TM w base g sl s) (x : Nd) (hf : s.free = -1) (hn : s.ns.length < 1000) (hu0 : 0 ≤ s.used) (hu1 : s.used ≤ 1000) :
    Calls Try.prog 27 #[.pointer (some ⟨g, 0, none⟩), .agg #[.int .i64 x.a, .int .i64 x.n, .int .i64 x.k0, .int .i64 x.k1, .bool x.b, .int .i64 x.v]] w
      (Did w base g sl (.int .i64 s.ns.length) { s with ns := s.ns ++ [x], used := s.used + 1 }) := by
  obtain ⟨i0, hi0, hz0, hz1, hz2⟩ := info_parts Try.info64
  obtain ⟨c0, c1, c2, c3, c4⟩ := h.cs
  have f0 := blk_f h.blk
  rw [hf] at c2
  have hg := h.lt
  have H := Aside0.mk h
  clear h hf
  go_enter Try.func27, Try.ntmps27
  go_wp2
  have H1 : TM ((w.setCell ⟨g, 3, none⟩ (.int .i64 (s.used + 1))).alloc (.cells #[.int .i64 x.a, .int .i64 x.n, .int .i64 x.k0, .int .i64 x.k1, .bool x.b, .int .i64 x.v] 64)) base g sl { s with used := s.used + 1 } := (H.out.setStruct (s' := { s with used := s.used + 1 }) _ rfl rfl).alloc _
  have F1 : Fr w ((w.setCell ⟨g, 3, none⟩ (.int .i64 (s.used + 1))).alloc (.cells #[.int .i64 x.a, .int .i64 x.n, .int .i64 x.k0, .int .i64 x.k1, .bool x.b, .int .i64 x.v] 64)) g sl.ownBlock := ((Fr.refl w g sl.ownBlock).set (.inl rfl) _).alloc _
  have B1 : ((w.setCell ⟨g, 3, none⟩ (.int .i64 (s.used + 1))).alloc (.cells #[.int .i64 x.a, .int .i64 x.n, .int .i64 x.k0, .int .i64 x.k1, .bool x.b, .int .i64 x.v] 64)).heap[w.heap.size]? = some (.cells #[.int .i64 x.a, .int .i64 x.n, .int .i64 x.k0, .int .i64 x.k1, .bool x.b, .int .i64 x.v] 64 (0, 0)) := by
    have := heap_alloc_new (w.setCell ⟨g, 3, none⟩ (.int .i64 (s.used + 1))) (.cells #[.int .i64 x.a, .int .i64 x.n, .int .i64 x.k0, .int .i64 x.k1, .bool x.b, .int .i64 x.v] 64)
    simpa using this
  generalize hW : (w.setCell ⟨g, 3, none⟩ (.int .i64 (s.used + 1))).alloc (.cells #[.int .i64 x.a, .int .i64 x.n, .int .i64 x.k0, .int .i64 x.k1, .bool x.b, .int .i64 x.v] 64) = W at H1 F1 B1 ⊢
  clear hW c0 c1 c2 c3 c4 f0
  obtain ⟨c0, c1, c2, c3, c4⟩ := H1.cs
  have f0 := blk_f H1.blk
  have b0 := blk_c B1 0
  have b1 := blk_c B1 1
  have b2 := blk_c B1 2
  have b3 := blk_c B1 3
  have b4 := blk_c B1 4
  have b5 := blk_c B1 5
  simp only [List.getElem?_toArray, List.getElem?_cons_zero, List.getElem?_cons_succ] at b0 b1 b2 b3 b4 b5
  have hrow := H1.row
  have hgW := H1.lt
  have hbg := H1.bg
  have hga : some g ≠ sl.ownBlock := fun e => H1.apart e.symm
  have hba : some w.heap.size ≠ sl.ownBlock := fun e => by have := (H.out.row.lt _ e.symm).2; omega
  have hbW := (Array.getElem?_eq_some_iff.1 B1).1
  go_region_law
    ((refine step_append_lies _ (by rfl) _ _ _ (by rfl) base 64 i0 _ 6 48 Try.underlying54 hi0 hz0 hz1 hz2 rfl (by omega) sl s.ns.length (rows s.ns) (by rfl) ((hrow.alloc _).drew)
        ⟨W.heap.size, 0, none⟩ 1 1 x.cells (by rfl) (by rfl) (World.news_of_block (cs := x.cells.toArray) (t := 64) (fr := (0, 0)) (heap_alloc_new W _)) (by simp [Nd.cells, Value.oneCell'])
        (by omega) (by unfold maxLen; omega) (by omega) (by simp; omega) (W.heap.size + 1) (by simp) ?_; intro gg cap w1 hown1 hgrow hat hlt; have hz1 : w1.frozen? ⟨g, 0, none⟩ = false := (hgrow.frozen_far _ (by simp; omega) hga).trans ((((Below.refl W.heap.size W).alloc (Nat.le_refl _) _).drew.frozen (p := ⟨g, 0, none⟩) hgW).trans (f0 0)); have hy1 : w1.cell? ⟨g, 0, none⟩ = some sl := (hgrow.cell_far _ (by simp; omega) hga).trans ((((Below.refl W.heap.size W).alloc (Nat.le_refl _) _).drew.cell (p := ⟨g, 0, none⟩) hgW).trans c0)))
  all_goals
    obtain ⟨H2, F2⟩ := H1.appended hown1 hgrow hat hn
    have F3 := Aside0.mk (F1.trans F2 (.inl rfl))
    have H3 := Aside0.mk H2
    have hat3 := Aside0.mk hat
    have F1 := Aside0.mk F1
    clear H2 F2 hat hown1 hgrow hrow
    go_wp2
    go_ret
    refine ⟨.slice (some ⟨gg, 0, none⟩) (s.ns.length + 1) cap, ?_, H3.out, F3.out, ?_⟩
    · first | rfl | (simp; done) | (simp; omega)
    · rcases hat3.out with e | e
      · exact .inl e.symm
      · exact .inr ⟨gg, rfl, by have := F1.out.size; omega⟩
set_option maxHeartbeats 4000000 in
set_option maxRecDepth 100000 in
theorem node_reuse {w : World} {base g : Nat} {sl : Value} {s : St} (h : TM w base g sl s) (x : Nd) {f : Nat} {y : Nd} (hf : s.free = (f : Int)) (hy : s.ns[f]? = some y) (hu0 : 0 ≤ s.used) (hu1 : s.used ≤ 1000) :
    Calls Try.prog 27 #[.pointer (some ⟨g, 0, none⟩), .agg #[.int .i64 x.a, .int .i64 x.n, .int .i64 x.k0, .int .i64 x.k1, .bool x.b, .int .i64 x.v]] w
      (Did w base g sl (.int .i64 f) { s with ns := s.ns.set f x, free := y.k0, used := s.used + 1 }) := by
  obtain ⟨c0, c1, c2, c3, c4⟩ := h.cs
  have f0 := blk_f h.blk
  obtain ⟨ab, cap, e, hba, hab, hag, hi, d0, d1, d2, d3, d4, d5, hfz⟩ := h.node hy
  have hcap := h.few
  subst e
  rw [hf] at c2
  have hg := h.lt
  have H := Aside0.mk h
  have HF := Aside0.mk hf
  have HY := Aside0.mk hy
  clear h hf hy
  have hneg : ((f : Int) == -1) = false := by rw [beq_eq_false_iff_ne]; omega
  go_enter Try.func27, Try.ntmps27
  go_wp2
  have H1 : TM (((w.setCell ⟨g, 3, none⟩ (.int .i64 (s.used + 1))).setCell ⟨g, 2, none⟩ (.int .i64 y.k0)).alloc (.cells #[.int .i64 x.a, .int .i64 x.n, .int .i64 x.k0, .int .i64 x.k1, .bool x.b, .int .i64 x.v] 64)) base g (.slice (some ⟨ab, 0, none⟩) s.ns.length cap) { s with used := s.used + 1, free := y.k0 } :=
    ((H.out.setStruct (s' := { s with used := s.used + 1 }) _ rfl rfl).setStruct (s' := { s with used := s.used + 1, free := y.k0 }) _ rfl rfl).alloc _
  have F1 : Fr w (((w.setCell ⟨g, 3, none⟩ (.int .i64 (s.used + 1))).setCell ⟨g, 2, none⟩ (.int .i64 y.k0)).alloc (.cells #[.int .i64 x.a, .int .i64 x.n, .int .i64 x.k0, .int .i64 x.k1, .bool x.b, .int .i64 x.v] 64)) g (some ab) := (((Fr.refl w g (some ab)).set (.inl rfl) _).set (.inl rfl) _).alloc _
  have B1 : (((w.setCell ⟨g, 3, none⟩ (.int .i64 (s.used + 1))).setCell ⟨g, 2, none⟩ (.int .i64 y.k0)).alloc (.cells #[.int .i64 x.a, .int .i64 x.n, .int .i64 x.k0, .int .i64 x.k1, .bool x.b, .int .i64 x.v] 64)).heap[w.heap.size]? = some (.cells #[.int .i64 x.a, .int .i64 x.n, .int .i64 x.k0, .int .i64 x.k1, .bool x.b, .int .i64 x.v] 64 (0, 0)) := by
    have := heap_alloc_new ((w.setCell ⟨g, 3, none⟩ (.int .i64 (s.used + 1))).setCell ⟨g, 2, none⟩ (.int .i64 y.k0)) (.cells #[.int .i64 x.a, .int .i64 x.n, .int .i64 x.k0, .int .i64 x.k1, .bool x.b, .int .i64 x.v] 64)
    simpa using this
  generalize hW : ((w.setCell ⟨g, 3, none⟩ (.int .i64 (s.used + 1))).setCell ⟨g, 2, none⟩ (.int .i64 y.k0)).alloc (.cells #[.int .i64 x.a, .int .i64 x.n, .int .i64 x.k0, .int .i64 x.k1, .bool x.b, .int .i64 x.v] 64) = W at H1 F1 B1 ⊢
  clear hW c0 c1 c2 c3 c4 f0 d0 d1 d2 d3 d4 d5 hfz
  obtain ⟨c0, c1, c2, c3, c4⟩ := H1.cs
  obtain ⟨ab', cap', e, -, hab', -, -, d0, d1, d2, d3, d4, d5, hfz⟩ := H1.node HY.out
  injection e with e _ e2
  injection e with e
  injection e with e
  subst e
  have b0 := blk_c B1 0
  have b1 := blk_c B1 1
  have b2 := blk_c B1 2
  have b3 := blk_c B1 3
  have b4 := blk_c B1 4
  have b5 := blk_c B1 5
  simp only [List.getElem?_toArray, List.getElem?_cons_zero, List.getElem?_cons_succ] at b0 b1 b2 b3 b4 b5
  have hne : ab ≠ w.heap.size := by omega
  have hne2 : w.heap.size ≠ ab := by omega
  have hga : g ≠ ab := fun e => hag e.symm
  have H1 := Aside0.mk H1
  have F1 := Aside0.mk F1
  clear e2 hab'
  go_region_held3 (fun w' => w'.cell? ⟨g, 0, none⟩ = some (.slice (some ⟨ab, 0, none⟩) s.ns.length cap) ∧ w'.cell? ⟨w.heap.size, 0, none⟩ = some (.int .i64 x.a) ∧ w'.cell? ⟨w.heap.size, 1, none⟩ = some (.int .i64 x.n) ∧ w'.cell? ⟨w.heap.size, 2, none⟩ = some (.int .i64 x.k0) ∧ w'.cell? ⟨w.heap.size, 3, none⟩ = some (.int .i64 x.k1) ∧ w'.cell? ⟨w.heap.size, 4, none⟩ = some (.bool x.b) ∧ w'.cell? ⟨w.heap.size, 5, none⟩ = some (.int .i64 x.v))
    (go_keep) (fail)
  go_wp2
  go_ret
  exact ⟨_, rfl, (TM.set6 (s := { s with used := s.used + 1, free := y.k0 }) H1.out HY.out x).drew, (F1.out.set6 _ x).drew, .inl rfl⟩
end Go.Proofs.Ytjffikckddijmaa
namespace Go.Proofs.Ytjffikckddijmaa
open Go.RowKit Go.Proofs.YtjffikckddijmaaW.PrintWords Go.Proofs.YtjffikckddijmaaW.PrintLast Go.Proofs.YtjffikckddijmaaW.PrintMore
attribute [local go_sem] max2_int min2_int max_two min_two max_three min_three max_four min_four
set_option linter.unusedVariables false
set_option linter.unusedSimpArgs false
set_option maxHeartbeats 1000000 in
set_option maxRecDepth 100000 in
theorem drop_any {w : World} {base g : Nat} {sl : Value} {s : St} (h : TM w base g sl s) {f : Nat} {y : Nd} (hy : s.ns[f]? = some y) (hu0 : 0 ≤ s.used) (hu1 : s.used ≤ 1000) :
    Calls Try.prog 46 #[.pointer (some ⟨g, 0, none⟩), .int .i64 f] w (Did w base g sl (.tuple #[]) (s.drop f)) := by
  obtain ⟨c0, c1, c2, c3, c4⟩ := h.cs
  have f0 := blk_f h.blk
  obtain ⟨ab, cap, e, hba, hab, hag, hi, d0, d1, d2, d3, d4, d5, hfz⟩ := h.node hy
  have hcap := h.few
  subst e
  have hg := h.lt
  have H := Aside0.mk h
  have HY := Aside0.mk hy
  clear h hy
  have hga : g ≠ ab := fun e => hag e.symm
  go_enter Try.func46, Try.ntmps46
  go_wp2
  have H1 : TM (w.setCell ⟨g, 3, none⟩ (.int .i64 (s.used - 1))) base g (.slice (some ⟨ab, 0, none⟩) s.ns.length cap) { s with used := s.used - 1 } := H.out.setStruct (s' := { s with used := s.used - 1 }) _ rfl rfl
  have F1 : Fr w (w.setCell ⟨g, 3, none⟩ (.int .i64 (s.used - 1))) g (some ab) := (Fr.refl w g (some ab)).set (.inl rfl) _
  generalize hW : w.setCell ⟨g, 3, none⟩ (.int .i64 (s.used - 1)) = W at H1 F1 ⊢
  clear hW c0 c1 c2 c3 c4 f0 d0 d1 d2 d3 d4 d5 hfz
  obtain ⟨c0, c1, c2, c3, c4⟩ := H1.cs
  have f0 := blk_f H1.blk
  obtain ⟨ab', cap', e, -, hab', -, -, d0, d1, d2, d3, d4, d5, hfz⟩ := H1.node HY.out
  injection e with e _ e2
  injection e with e
  injection e with e
  subst e
  have H1 := Aside0.mk H1
  have F1 := Aside0.mk F1
  clear e2 hab'
  go_region_held3 (fun w' => w'.cell? ⟨g, 0, none⟩ = some (.slice (some ⟨ab, 0, none⟩) s.ns.length cap) ∧ w'.cell? ⟨g, 2, none⟩ = some (.int .i64 s.free))
    (go_keep) (fail)
  go_wp2
  go_end0
  have H2 := (TM.setStruct (s' := s.drop f) (j := 2) (TM.set6 (s := { s with used := s.used - 1 }) H1.out HY.out ⟨0, 0, s.free, -1, false, 0⟩) (.int .i64 f) rfl rfl).drew
  have F2 := ((F1.out.set6 (f * 6) ⟨0, 0, s.free, -1, false, 0⟩).set (p := ⟨g, 2, none⟩) (.inl rfl) (.int .i64 f)).drew
  exact ⟨_, rfl, H2, F2, .inl rfl⟩
end Go.Proofs.Ytjffikckddijmaa
