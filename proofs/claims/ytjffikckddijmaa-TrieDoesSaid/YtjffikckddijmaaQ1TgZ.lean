/-
  Chapter 7: Put: a prefix ahead of a node that is there.
-/
import Derived.Test.YtjffikckddijmaaQ1TgU
import Derived.Test.YtjffikckddijmaaQ1TgK
namespace Go.Proofs.Ytjffikckddijmaa
open Go.RowKit Go.Proofs.YtjffikckddijmaaW.PrintWords Go.Proofs.YtjffikckddijmaaW.PrintLast Go.Proofs.YtjffikckddijmaaW.PrintMore
open All All.BM
attribute [local go_sem] max2_int min2_int max_two min_two max_three min_three max_four min_four
set_option linter.unusedVariables false
set_option linter.unusedSimpArgs false
attribute [local go_sem high] eqA31 eqA33
theorem key_ne {p q : K} (hp : p.length ≤ 32) (hq : q.length ≤ 32) (h : q ≠ p) : (ad q == ad p && q.length == p.length) = false := by
  cases h1 : (q.length == p.length)
  · simp
  · have h1 : q.length = p.length := by simpa using h1
    have h2 : ad q ≠ ad p := fun e => h (ad_inj hq h1 e)
    simp [h2]
theorem key_ne' {p q : K} (hp : p.length ≤ 32) (hq : q.length ≤ 32) (h : q ≠ p) : ((ad q : Int) == (ad p : Int) && (q.length : Int) == (p.length : Int)) = false := by
  have := key_ne hp hq h
  rw [Bool.and_eq_false_iff] at this ⊢
  rcases this with h | h
  · left; rw [beq_eq_false_iff_ne] at h ⊢; omega
  · right; rw [beq_eq_false_iff_ne] at h ⊢; omega
theorem TM.far {w : World} {base g : Nat} {sl : Value} {s : St} {b o : Nat} {u : Value} (h : TM w base g sl s) (hg : b ≠ g) (ha : some b ≠ sl.ownBlock) : TM (w.setCell ⟨b, o, none⟩ u) base g sl s :=
  ⟨(Below.heap_setCell _ _ _ _ (Ne.symm hg)).trans h.blk, own_setCell h.row ha u, h.bg, h.few, h.apart⟩
theorem T.sub_keys {p : K} : ∀ {t : T} {k : K}, k ∈ (T.sub p t).keys → k ∈ t.keys
  | .nil, _, h => h
  | .nd i q s l r, k, h => by
    cases hs : stop q p
    · rw [sub_step hs] at h
      simp only [T.keys, List.mem_cons, List.mem_append]
      cases hb : bitOf p q.length <;> rw [hb] at h
      · exact .inr (.inl (T.sub_keys h))
      · exact .inr (.inr (T.sub_keys h))
    · rw [sub_stop hs] at h; exact h
set_option maxHeartbeats 4000000 in
set_option maxRecDepth 100000 in
theorem put_C0 {w : World} {base g : Nat} {sl : Value} {s : St} (h : TM w base g sl s) {t : T} {fl : List Nat} (hR : Rep0 s t fl) (p : K) (hp : p.length ≤ 32) (v : Int) (hr : (s.room == 0) = false)
    {m : Nat} {q : K} {sv : Option Int} {l r : T} (hs : T.sub p t = .nd m q sv l r) (hne : q ≠ p) (hlt : ¬ (lcp p q).length < p.length) (hu0 : 0 ≤ s.used) (hu1 : s.used ≤ 1000) (hfull : s.room < s.used + 1) :
    Calls Try.prog 14 #[.pointer (some ⟨g, 0, none⟩), .agg #[.int .i64 (ad p), .int .i64 p.length], .int .i64 v] w (Did w base g sl (.int .i64 7) s) := by
  have HM := Aside0.mk (may_yes hp)
  have H := Aside0.mk h
  have HR := Aside0.mk hR
  obtain ⟨x, hx, hnd, -, -, hmt⟩ := hR.subNode hs
  have HX := Aside0.mk hx
  have hnd := Aside0.mk hnd
  have hq : q.length ≤ 32 := hR.short q (by
    have := T.sub_keys (p := p) (t := t) (k := q) (by rw [hs]; simp [T.keys])
    exact this)
  have hat : rootOf (T.sub p t) = (m : Int) := by rw [hs]; rfl
  have hg := h.lt
  have hwr : IntKind.i64.wrap (s.used + 1) = s.used + 1 := IntWalk.i64_in _ (by omega)
  have hd1 : decide (s.room < s.used + 1) = true := by simpa using hfull
  have HC := Aside0.mk (t_common hp hq)
  have hl1 : decide (((lcp p q).length : Int) < (p.length : Int)) = false := by simpa using hlt
  have hl2 : decide ((lcp p q).length < p.length) = false := by simpa using hlt
  have hk1 := key_ne hp hq hne
  have hk2 := key_ne' hp hq hne
  have hUl : t.idx.length + 0 ≤ 1000 := by rw [T.size_idx]; have := hR.used; omega
  clear h hR hs hx hfull hlt hne hmt
  have HAT := Aside0.mk hat
  clear hat
  go_enter Try.func14, Try.ntmps14
  go_wp2_with (first
    | (go_at_call 18; refine (bits_May.calls _ _ _ _ HM.out).mono ?_; rintro e w1 ⟨rfl, hb⟩; have hB1 : Below w.heap.size w w1 := below_step ((Below.refl _ _).alloc (Nat.le_refl _) _) hb; have q0 : w1.cell? ⟨w.heap.size, 0, none⟩ = some (.int .i64 (ad p)) := pw_cell_below hb (by go_simp); have q1 : w1.cell? ⟨w.heap.size, 1, none⟩ = some (.int .i64 p.length) := pw_cell_below hb (by go_simp); have H1 := H.out.below hB1; obtain ⟨c0, c1, c2, c3, c4⟩ := H1.cs; have H1 := Aside0.mk H1; have HB1 := Aside0.mk hB1; clear hb hB1)
    | (go_at_call 25; refine (seek_p H1.out HR.out hp).mono ?_; rintro e w2 ⟨rfl, hb⟩; have p0 : w2.cell? ⟨w.heap.size, 0, none⟩ = some (.int .i64 (ad p)) := pw_cell_below hb q0; have p1 : w2.cell? ⟨w.heap.size, 1, none⟩ = some (.int .i64 p.length) := pw_cell_below hb q1; have H2 := H1.out.below hb; clear q0 q1 c0 c1 c2 c3 c4; obtain ⟨c0, c1, c2, c3, c4⟩ := H2.cs; have H2 := Aside0.mk H2; have HB2 := Aside0.mk (below_step HB1.out hb); clear hb; rw [HAT.out]))
  obtain ⟨ab, cap, e, hba, hab, hag, hi, d0, d1, d2, d3, d4, d5, hfz⟩ := H2.out.node HX.out
  rw [hnd.out.a] at d0
  rw [hnd.out.n] at d1
  have hcap := H2.out.few
  subst e
  have hm1 : ((m : Int) != -1) = true := by rw [bne_iff_ne]; omega
  have hm2 : ((m : Int) == -1) = false := by rw [beq_eq_false_iff_ne]; omega
  have hga : g ≠ ab := fun e => hag e.symm
  have hg2 := H2.out.lt
  have hgp := World.block_lt_of_cell? w2 _ p0
  go_quiet (fail)
  go_wp2
  go_region_held3 (fun w' => w'.cell? ⟨g, 0, none⟩ = some (.slice (some ⟨ab, 0, none⟩) s.ns.length cap) ∧ w'.cell? ⟨ab, m * 6, none⟩ = some (.int .i64 (ad q)) ∧ w'.cell? ⟨ab, m * 6 + 1, none⟩ = some (.int .i64 q.length) ∧ w'.cell? ⟨w.heap.size, 0, none⟩ = some (.int .i64 (ad p)) ∧ w'.cell? ⟨w.heap.size, 1, none⟩ = some (.int .i64 p.length))
    (first | go_keep | (go_split_ands; exact ⟨pw_cell_below hb5 (by assumption), pw_cell_below hb5 (by assumption), pw_cell_below hb5 (by assumption), pw_cell_below hb5 (by assumption), pw_cell_below hb5 (by assumption)⟩))
    (first | (go_at_call 26; refine (trie_common.calls _ _ _ _ _ _ HC.out).mono ?_; rintro e w5 ⟨rfl, hb5⟩))
  rename_i hHeld
  clear hHeld
  have B5 : w5.heap[w2.heap.size]? = some (.cells #[.int .i64 (ad p), .int .i64 p.length, .int .i64 (-1), .int .i64 (-1), .bool true, .int .i64 v] 64 (0, 0)) := (hb5.block w2.heap.size (by simp)).trans (by
    have := heap_alloc_new w2 (.cells #[.int .i64 (ad p), .int .i64 p.length, .int .i64 (-1), .int .i64 (-1), .bool true, .int .i64 v] 64)
    exact this)
  have hBB : Below w2.heap.size w2 w5 := below_then (by repeat (first | exact Below.refl _ _ | apply pw_below_drewN | apply below_drew1 | apply below_alloc)) (by simp) hb5
  have H5 := H2.out.below hBB
  have p5 := pw_cell_below hBB p0
  have p6 := pw_cell_below hBB p1
  have HB5 := Aside0.mk (below_step HB2.out hBB)
  clear hb5 hBB p0 p1 d0 d1 d2 d3 d4 d5 hfz c0 c1 c2 c3 c4 hab hba
  obtain ⟨c0, c1, c2, c3, c4⟩ := H5.cs
  obtain ⟨ab', cap', e, -, hab, -, -, d0, d1, d2, d3, d4, d5, hfz⟩ := H5.node HX.out
  injection e with e _ e2
  injection e with e
  injection e with e
  subst e
  rw [hnd.out.a] at d0
  rw [hnd.out.n] at d1
  have hg5 := H5.lt
  have hgp5 := World.block_lt_of_cell? w5 _ p5
  have H5 := Aside0.mk H5
  have HNE : Aside0 (w2.heap.size ≠ g ∧ some w2.heap.size ≠ (Value.slice (some ⟨ab, 0, none⟩) s.ns.length cap).ownBlock) := ⟨by omega, by have := (H2.out.row.lt ab rfl).2; simp only [Value.ownBlock, ne_eq, Option.some.injEq]; omega⟩
  have hle2 : w.heap.size ≤ w2.heap.size := by omega
  clear e2 hk1 hk2 hg2 hgp
  go_wp2
  go_quiet (fail)
  go_wp2
  go_ret
  exact ⟨_, rfl, by repeat (first | exact H5.out | apply TM.drewN | apply TM.alloc), by repeat (first | exact Fr.of_below HB5.out g _ | apply Fr.drewN | apply Fr.alloc), .inl rfl⟩
set_option maxHeartbeats 4000000 in
set_option maxRecDepth 100000 in
theorem put_C1f {w : World} {base g : Nat} {sl : Value} {s : St} (h : TM w base g sl s) {t : T} {fl : List Nat} (hR : Rep0 s t fl) (p : K) (hp : p.length ≤ 32) (v : Int) (hr : (s.room == 0) = false)
    {m : Nat} {q : K} {sv : Option Int} {l r : T} (hs : T.sub p t = .nd m q sv l r) (hne : q ≠ p) (hlt : ¬ (lcp p q).length < p.length) (hu0 : 0 ≤ s.used) (hu1 : s.used < 1000) (hfull : ¬ s.room < s.used + 1) (hbit : bitOf q (lcp p q).length = false) :
    Calls Try.prog 14 #[.pointer (some ⟨g, 0, none⟩), .agg #[.int .i64 (ad p), .int .i64 p.length], .int .i64 v] w (Did w base g sl (.int .i64 0) ((s.add ((own p v).kid (bitOf q (lcp p q).length) m)).2.put (plc p t) (s.add ((own p v).kid (bitOf q (lcp p q).length) m)).1)) := by
  have HM := Aside0.mk (may_yes hp)
  have H := Aside0.mk h
  have HR := Aside0.mk hR
  obtain ⟨x, hx, hnd, -, -, hmt⟩ := hR.subNode hs
  have HX := Aside0.mk hx
  have hnd := Aside0.mk hnd
  have hq : q.length ≤ 32 := hR.short q (by
    have := T.sub_keys (p := p) (t := t) (k := q) (by rw [hs]; simp [T.keys])
    exact this)
  have hat : rootOf (T.sub p t) = (m : Int) := by rw [hs]; rfl
  have hg := h.lt
  have hwr : IntKind.i64.wrap (s.used + 1) = s.used + 1 := IntWalk.i64_in _ (by omega)
  have hd1 : decide (s.room < s.used + 1) = false := by simpa using hfull
  have HC := Aside0.mk (t_common hp hq)
  have hl1 : decide (((lcp p q).length : Int) < (p.length : Int)) = false := by simpa using hlt
  have hl2 : decide ((lcp p q).length < p.length) = false := by simpa using hlt
  have hk1 := key_ne hp hq hne
  have hk2 := key_ne' hp hq hne
  have hUl : t.idx.length + 1 ≤ 1000 := by rw [T.size_idx]; have := hR.used; omega
  have HQ := Aside0.mk (t_BitK hq (lcp p q).length)
  rw [hbit] at HQ
  have HBIT := Aside0.mk hbit
  clear hbit
  clear h hR hs hx hfull hlt hne hmt
  have HAT := Aside0.mk hat
  clear hat
  go_enter Try.func14, Try.ntmps14
  go_wp2_with (first
    | (go_at_call 18; refine (bits_May.calls _ _ _ _ HM.out).mono ?_; rintro e w1 ⟨rfl, hb⟩; have hB1 : Below w.heap.size w w1 := below_step ((Below.refl _ _).alloc (Nat.le_refl _) _) hb; have q0 : w1.cell? ⟨w.heap.size, 0, none⟩ = some (.int .i64 (ad p)) := pw_cell_below hb (by go_simp); have q1 : w1.cell? ⟨w.heap.size, 1, none⟩ = some (.int .i64 p.length) := pw_cell_below hb (by go_simp); have H1 := H.out.below hB1; obtain ⟨c0, c1, c2, c3, c4⟩ := H1.cs; have H1 := Aside0.mk H1; have HB1 := Aside0.mk hB1; clear hb hB1)
    | (go_at_call 25; refine (seek_p H1.out HR.out hp).mono ?_; rintro e w2 ⟨rfl, hb⟩; have p0 : w2.cell? ⟨w.heap.size, 0, none⟩ = some (.int .i64 (ad p)) := pw_cell_below hb q0; have p1 : w2.cell? ⟨w.heap.size, 1, none⟩ = some (.int .i64 p.length) := pw_cell_below hb q1; have H2 := H1.out.below hb; clear q0 q1 c0 c1 c2 c3 c4; obtain ⟨c0, c1, c2, c3, c4⟩ := H2.cs; have H2 := Aside0.mk H2; have HB2 := Aside0.mk (below_step HB1.out hb); clear hb; rw [HAT.out]))
  obtain ⟨ab, cap, e, hba, hab, hag, hi, d0, d1, d2, d3, d4, d5, hfz⟩ := H2.out.node HX.out
  rw [hnd.out.a] at d0
  rw [hnd.out.n] at d1
  have hcap := H2.out.few
  subst e
  have hm1 : ((m : Int) != -1) = true := by rw [bne_iff_ne]; omega
  have hm2 : ((m : Int) == -1) = false := by rw [beq_eq_false_iff_ne]; omega
  have hga : g ≠ ab := fun e => hag e.symm
  have hg2 := H2.out.lt
  have hgp := World.block_lt_of_cell? w2 _ p0
  go_quiet (fail)
  go_wp2
  go_region_held3 (fun w' => w'.cell? ⟨g, 0, none⟩ = some (.slice (some ⟨ab, 0, none⟩) s.ns.length cap) ∧ w'.cell? ⟨ab, m * 6, none⟩ = some (.int .i64 (ad q)) ∧ w'.cell? ⟨ab, m * 6 + 1, none⟩ = some (.int .i64 q.length) ∧ w'.cell? ⟨w.heap.size, 0, none⟩ = some (.int .i64 (ad p)) ∧ w'.cell? ⟨w.heap.size, 1, none⟩ = some (.int .i64 p.length))
    (first | go_keep | (go_split_ands; exact ⟨pw_cell_below hb5 (by assumption), pw_cell_below hb5 (by assumption), pw_cell_below hb5 (by assumption), pw_cell_below hb5 (by assumption), pw_cell_below hb5 (by assumption)⟩))
    (first | (go_at_call 26; refine (trie_common.calls _ _ _ _ _ _ HC.out).mono ?_; rintro e w5 ⟨rfl, hb5⟩))
  rename_i hHeld
  clear hHeld
  have B5 : w5.heap[w2.heap.size]? = some (.cells #[.int .i64 (ad p), .int .i64 p.length, .int .i64 (-1), .int .i64 (-1), .bool true, .int .i64 v] 64 (0, 0)) := (hb5.block w2.heap.size (by simp)).trans (by
    have := heap_alloc_new w2 (.cells #[.int .i64 (ad p), .int .i64 p.length, .int .i64 (-1), .int .i64 (-1), .bool true, .int .i64 v] 64)
    exact this)
  have hBB : Below w2.heap.size w2 w5 := below_then (by repeat (first | exact Below.refl _ _ | apply pw_below_drewN | apply below_drew1 | apply below_alloc)) (by simp) hb5
  have H5 := H2.out.below hBB
  have p5 := pw_cell_below hBB p0
  have p6 := pw_cell_below hBB p1
  have HB5 := Aside0.mk (below_step HB2.out hBB)
  clear hb5 hBB p0 p1 d0 d1 d2 d3 d4 d5 hfz c0 c1 c2 c3 c4 hab hba
  obtain ⟨c0, c1, c2, c3, c4⟩ := H5.cs
  obtain ⟨ab', cap', e, -, hab, -, -, d0, d1, d2, d3, d4, d5, hfz⟩ := H5.node HX.out
  injection e with e _ e2
  injection e with e
  injection e with e
  subst e
  rw [hnd.out.a] at d0
  rw [hnd.out.n] at d1
  have hg5 := H5.lt
  have hgp5 := World.block_lt_of_cell? w5 _ p5
  have H5 := Aside0.mk H5
  have HNE : Aside0 (w2.heap.size ≠ g ∧ some w2.heap.size ≠ (Value.slice (some ⟨ab, 0, none⟩) s.ns.length cap).ownBlock) := ⟨by omega, by have := (H2.out.row.lt ab rfl).2; simp only [Value.ownBlock, ne_eq, Option.some.injEq]; omega⟩
  have hle2 : w.heap.size ≤ w2.heap.size := by omega
  clear e2 hk1 hk2 hg2 hgp
  go_wp2
  go_quiet (fail)
  have H5 : TM (w5.drewN nq) base g (.slice (some ⟨ab, 0, none⟩) s.ns.length cap) s := H5.out.drewN nq
  have B5 : (w5.drewN nq).heap[w2.heap.size]? = some (.cells #[.int .i64 (ad p), .int .i64 p.length, .int .i64 (-1), .int .i64 (-1), .bool true, .int .i64 v] 64 (0, 0)) := B5
  have p5 : (w5.drewN nq).cell? ⟨w.heap.size, 0, none⟩ = some (.int .i64 (ad p)) := p5
  have p6 : (w5.drewN nq).cell? ⟨w.heap.size, 1, none⟩ = some (.int .i64 p.length) := p6
  have HB5 : Below w.heap.size w (w5.drewN nq) := pw_below_drewN HB5.out nq
  clear c0 c1 c2 c3 c4 d0 d1 d2 d3 d4 d5 hfz hg5 hgp5 hab
  generalize w5.drewN nq = W at H5 B5 p5 p6 HB5 ⊢
  obtain ⟨c0, c1, c2, c3, c4⟩ := H5.cs
  obtain ⟨ab', cap', e, -, hab, -, -, d0, d1, d2, d3, d4, d5, hfz⟩ := H5.node HX.out
  injection e with e _ e2
  injection e with e
  injection e with e
  subst e
  rw [hnd.out.a] at d0
  rw [hnd.out.n] at d1
  have hg5 := H5.lt
  have hgp5 := World.block_lt_of_cell? W _ p5
  have hgo := (Array.getElem?_eq_some_iff.1 B5).1
  have H5 := Aside0.mk H5
  have HB5 := Aside0.mk HB5
  clear e2
  have o0 := blk_c B5 0
  have o1 := blk_c B5 1
  have o2 := blk_c B5 2
  have o3 := blk_c B5 3
  have o4 := blk_c B5 4
  have o5 := blk_c B5 5
  simp only [List.getElem?_toArray, List.getElem?_cons_zero, List.getElem?_cons_succ] at o0 o1 o2 o3 o4 o5
  have hn1 := HNE.out.1
  have hn2 := HNE.out.2
  have hu1' : s.used ≤ 1000 := by omega
  have hUl' : t.idx.length < 1000 := by omega
  have B5 := Aside0.mk B5
  have HPL := Aside0.mk (fun i b (e : plc p t = some (i, b)) => Nat.lt_of_lt_of_le (HR.out.plcLt e) (s.add_len ((own p v).kid false m)))
  go_wp2_with (first
    | (go_at_call 26; refine (trie_common.calls _ _ _ _ _ _ HC.out).mono ?_; rintro e w6 ⟨rfl, hb6⟩; have r0 : w6.cell? ⟨W.heap.size, 0, none⟩ = some (.int .i64 (ad q)) := pw_cell_below hb6 (by go_simp); have hBB : Below W.heap.size W w6 := below_then (by repeat (first | exact Below.refl _ _ | apply pw_below_drewN | apply below_drew1 | apply below_alloc)) (by simp) hb6; have H6 := H5.out.below hBB; have B6 : w6.heap[w2.heap.size]? = some (.cells #[.int .i64 (ad p), .int .i64 p.length, .int .i64 (-1), .int .i64 (-1), .bool true, .int .i64 v] 64 (0, 0)) := (hBB.block _ (Array.getElem?_eq_some_iff.1 B5.out).1).trans B5.out; have HB6 := Aside0.mk (below_step HB5.out hBB); clear hb6 hBB o0 o1 o2 o3 o4 o5 c0 c1 c2 c3 c4 d0 d1 d2 d3 d4 d5 p5 p6 hfz; have o0 := blk_c B6 0; have o1 := blk_c B6 1; have o2 := blk_c B6 2; have o3 := blk_c B6 3; have o4 := blk_c B6 4; have o5 := blk_c B6 5; simp only [List.getElem?_toArray, List.getElem?_cons_zero, List.getElem?_cons_succ] at o0 o1 o2 o3 o4 o5; have of := blk_f B6; have B6 := Aside0.mk B6; have H6 := Aside0.mk H6)
    | (go_at_call 29; refine (bits_Bit.calls _ _ _ _ HQ.out).mono ?_; rintro e w7 ⟨rfl, ⟨nz, rfl⟩⟩)
    | (go_at_call 27; refine (node_any (base := base) (sl := .slice (some ⟨ab, 0, none⟩) s.ns.length cap) (s := s) ?hT HR.out.pool hUl' ⟨(ad p : Int), (p.length : Int), (m : Int), -1, true, v⟩ hu0 hu1').mono ?_; (case hT => repeat (first | exact H6.out | apply TM.drewN | apply TM.alloc | refine TM.far ?_ HNE.out.1 HNE.out.2)); rintro e w8 ⟨sl3, rfl, T3, F3, A3⟩; obtain ⟨bb, oo, P3⟩ := plc_any T3 HPL.out; obtain ⟨kk, pc⟩ := P3.cell; have pf := P3.free; have d0 := T3.cs.1; have T3 := Aside0.mk T3; have F3 := Aside0.mk F3; have P3 := Aside0.mk P3; have A3 := Aside0.mk A3)
    | (go_at_call 28; refine (P3.out.call _ d0).mono ?_; rintro e w9 ⟨rfl, rfl⟩))
  go_ret
  rw [HBIT.out]
  refine put_end P3.out T3.out F3.out A3.out ?_
  repeat (first | exact Fr.of_below HB6.out g _ | apply Fr.drewN | apply Fr.alloc | refine Fr.set ?_ (.inr (.inr hle2)) _)
set_option maxHeartbeats 4000000 in
set_option maxRecDepth 100000 in
theorem put_C1t {w : World} {base g : Nat} {sl : Value} {s : St} (h : TM w base g sl s) {t : T} {fl : List Nat} (hR : Rep0 s t fl) (p : K) (hp : p.length ≤ 32) (v : Int) (hr : (s.room == 0) = false)
    {m : Nat} {q : K} {sv : Option Int} {l r : T} (hs : T.sub p t = .nd m q sv l r) (hne : q ≠ p) (hlt : ¬ (lcp p q).length < p.length) (hu0 : 0 ≤ s.used) (hu1 : s.used < 1000) (hfull : ¬ s.room < s.used + 1) (hbit : bitOf q (lcp p q).length = true) :
    Calls Try.prog 14 #[.pointer (some ⟨g, 0, none⟩), .agg #[.int .i64 (ad p), .int .i64 p.length], .int .i64 v] w (Did w base g sl (.int .i64 0) ((s.add ((own p v).kid (bitOf q (lcp p q).length) m)).2.put (plc p t) (s.add ((own p v).kid (bitOf q (lcp p q).length) m)).1)) := by
  have HM := Aside0.mk (may_yes hp)
  have H := Aside0.mk h
  have HR := Aside0.mk hR
  obtain ⟨x, hx, hnd, -, -, hmt⟩ := hR.subNode hs
  have HX := Aside0.mk hx
  have hnd := Aside0.mk hnd
  have hq : q.length ≤ 32 := hR.short q (by
    have := T.sub_keys (p := p) (t := t) (k := q) (by rw [hs]; simp [T.keys])
    exact this)
  have hat : rootOf (T.sub p t) = (m : Int) := by rw [hs]; rfl
  have hg := h.lt
  have hwr : IntKind.i64.wrap (s.used + 1) = s.used + 1 := IntWalk.i64_in _ (by omega)
  have hd1 : decide (s.room < s.used + 1) = false := by simpa using hfull
  have HC := Aside0.mk (t_common hp hq)
  have hl1 : decide (((lcp p q).length : Int) < (p.length : Int)) = false := by simpa using hlt
  have hl2 : decide ((lcp p q).length < p.length) = false := by simpa using hlt
  have hk1 := key_ne hp hq hne
  have hk2 := key_ne' hp hq hne
  have hUl : t.idx.length + 1 ≤ 1000 := by rw [T.size_idx]; have := hR.used; omega
  have HQ := Aside0.mk (t_BitK hq (lcp p q).length)
  rw [hbit] at HQ
  have HBIT := Aside0.mk hbit
  clear hbit
  clear h hR hs hx hfull hlt hne hmt
  have HAT := Aside0.mk hat
  clear hat
  go_enter Try.func14, Try.ntmps14
  go_wp2_with (first
    | (go_at_call 18; refine (bits_May.calls _ _ _ _ HM.out).mono ?_; rintro e w1 ⟨rfl, hb⟩; have hB1 : Below w.heap.size w w1 := below_step ((Below.refl _ _).alloc (Nat.le_refl _) _) hb; have q0 : w1.cell? ⟨w.heap.size, 0, none⟩ = some (.int .i64 (ad p)) := pw_cell_below hb (by go_simp); have q1 : w1.cell? ⟨w.heap.size, 1, none⟩ = some (.int .i64 p.length) := pw_cell_below hb (by go_simp); have H1 := H.out.below hB1; obtain ⟨c0, c1, c2, c3, c4⟩ := H1.cs; have H1 := Aside0.mk H1; have HB1 := Aside0.mk hB1; clear hb hB1)
    | (go_at_call 25; refine (seek_p H1.out HR.out hp).mono ?_; rintro e w2 ⟨rfl, hb⟩; have p0 : w2.cell? ⟨w.heap.size, 0, none⟩ = some (.int .i64 (ad p)) := pw_cell_below hb q0; have p1 : w2.cell? ⟨w.heap.size, 1, none⟩ = some (.int .i64 p.length) := pw_cell_below hb q1; have H2 := H1.out.below hb; clear q0 q1 c0 c1 c2 c3 c4; obtain ⟨c0, c1, c2, c3, c4⟩ := H2.cs; have H2 := Aside0.mk H2; have HB2 := Aside0.mk (below_step HB1.out hb); clear hb; rw [HAT.out]))
  obtain ⟨ab, cap, e, hba, hab, hag, hi, d0, d1, d2, d3, d4, d5, hfz⟩ := H2.out.node HX.out
  rw [hnd.out.a] at d0
  rw [hnd.out.n] at d1
  have hcap := H2.out.few
  subst e
  have hm1 : ((m : Int) != -1) = true := by rw [bne_iff_ne]; omega
  have hm2 : ((m : Int) == -1) = false := by rw [beq_eq_false_iff_ne]; omega
  have hga : g ≠ ab := fun e => hag e.symm
  have hg2 := H2.out.lt
  have hgp := World.block_lt_of_cell? w2 _ p0
  go_quiet (fail)
  go_wp2
  go_region_held3 (fun w' => w'.cell? ⟨g, 0, none⟩ = some (.slice (some ⟨ab, 0, none⟩) s.ns.length cap) ∧ w'.cell? ⟨ab, m * 6, none⟩ = some (.int .i64 (ad q)) ∧ w'.cell? ⟨ab, m * 6 + 1, none⟩ = some (.int .i64 q.length) ∧ w'.cell? ⟨w.heap.size, 0, none⟩ = some (.int .i64 (ad p)) ∧ w'.cell? ⟨w.heap.size, 1, none⟩ = some (.int .i64 p.length))
    (first | go_keep | (go_split_ands; exact ⟨pw_cell_below hb5 (by assumption), pw_cell_below hb5 (by assumption), pw_cell_below hb5 (by assumption), pw_cell_below hb5 (by assumption), pw_cell_below hb5 (by assumption)⟩))
    (first | (go_at_call 26; refine (trie_common.calls _ _ _ _ _ _ HC.out).mono ?_; rintro e w5 ⟨rfl, hb5⟩))
  rename_i hHeld
  clear hHeld
  have B5 : w5.heap[w2.heap.size]? = some (.cells #[.int .i64 (ad p), .int .i64 p.length, .int .i64 (-1), .int .i64 (-1), .bool true, .int .i64 v] 64 (0, 0)) := (hb5.block w2.heap.size (by simp)).trans (by
    have := heap_alloc_new w2 (.cells #[.int .i64 (ad p), .int .i64 p.length, .int .i64 (-1), .int .i64 (-1), .bool true, .int .i64 v] 64)
    exact this)
  have hBB : Below w2.heap.size w2 w5 := below_then (by repeat (first | exact Below.refl _ _ | apply pw_below_drewN | apply below_drew1 | apply below_alloc)) (by simp) hb5
  have H5 := H2.out.below hBB
  have p5 := pw_cell_below hBB p0
  have p6 := pw_cell_below hBB p1
  have HB5 := Aside0.mk (below_step HB2.out hBB)
  clear hb5 hBB p0 p1 d0 d1 d2 d3 d4 d5 hfz c0 c1 c2 c3 c4 hab hba
  obtain ⟨c0, c1, c2, c3, c4⟩ := H5.cs
  obtain ⟨ab', cap', e, -, hab, -, -, d0, d1, d2, d3, d4, d5, hfz⟩ := H5.node HX.out
  injection e with e _ e2
  injection e with e
  injection e with e
  subst e
  rw [hnd.out.a] at d0
  rw [hnd.out.n] at d1
  have hg5 := H5.lt
  have hgp5 := World.block_lt_of_cell? w5 _ p5
  have H5 := Aside0.mk H5
  have HNE : Aside0 (w2.heap.size ≠ g ∧ some w2.heap.size ≠ (Value.slice (some ⟨ab, 0, none⟩) s.ns.length cap).ownBlock) := ⟨by omega, by have := (H2.out.row.lt ab rfl).2; simp only [Value.ownBlock, ne_eq, Option.some.injEq]; omega⟩
  have hle2 : w.heap.size ≤ w2.heap.size := by omega
  clear e2 hk1 hk2 hg2 hgp
  go_wp2
  go_quiet (fail)
  have H5 : TM (w5.drewN nq) base g (.slice (some ⟨ab, 0, none⟩) s.ns.length cap) s := H5.out.drewN nq
  have B5 : (w5.drewN nq).heap[w2.heap.size]? = some (.cells #[.int .i64 (ad p), .int .i64 p.length, .int .i64 (-1), .int .i64 (-1), .bool true, .int .i64 v] 64 (0, 0)) := B5
  have p5 : (w5.drewN nq).cell? ⟨w.heap.size, 0, none⟩ = some (.int .i64 (ad p)) := p5
  have p6 : (w5.drewN nq).cell? ⟨w.heap.size, 1, none⟩ = some (.int .i64 p.length) := p6
  have HB5 : Below w.heap.size w (w5.drewN nq) := pw_below_drewN HB5.out nq
  clear c0 c1 c2 c3 c4 d0 d1 d2 d3 d4 d5 hfz hg5 hgp5 hab
  generalize w5.drewN nq = W at H5 B5 p5 p6 HB5 ⊢
  obtain ⟨c0, c1, c2, c3, c4⟩ := H5.cs
  obtain ⟨ab', cap', e, -, hab, -, -, d0, d1, d2, d3, d4, d5, hfz⟩ := H5.node HX.out
  injection e with e _ e2
  injection e with e
  injection e with e
  subst e
  rw [hnd.out.a] at d0
  rw [hnd.out.n] at d1
  have hg5 := H5.lt
  have hgp5 := World.block_lt_of_cell? W _ p5
  have hgo := (Array.getElem?_eq_some_iff.1 B5).1
  have H5 := Aside0.mk H5
  have HB5 := Aside0.mk HB5
  clear e2
  have o0 := blk_c B5 0
  have o1 := blk_c B5 1
  have o2 := blk_c B5 2
  have o3 := blk_c B5 3
  have o4 := blk_c B5 4
  have o5 := blk_c B5 5
  simp only [List.getElem?_toArray, List.getElem?_cons_zero, List.getElem?_cons_succ] at o0 o1 o2 o3 o4 o5
  have hn1 := HNE.out.1
  have hn2 := HNE.out.2
  have hu1' : s.used ≤ 1000 := by omega
  have hUl' : t.idx.length < 1000 := by omega
  have B5 := Aside0.mk B5
  have HPL := Aside0.mk (fun i b (e : plc p t = some (i, b)) => Nat.lt_of_lt_of_le (HR.out.plcLt e) (s.add_len ((own p v).kid true m)))
  go_wp2_with (first
    | (go_at_call 26; refine (trie_common.calls _ _ _ _ _ _ HC.out).mono ?_; rintro e w6 ⟨rfl, hb6⟩; have r0 : w6.cell? ⟨W.heap.size, 0, none⟩ = some (.int .i64 (ad q)) := pw_cell_below hb6 (by go_simp); have hBB : Below W.heap.size W w6 := below_then (by repeat (first | exact Below.refl _ _ | apply pw_below_drewN | apply below_drew1 | apply below_alloc)) (by simp) hb6; have H6 := H5.out.below hBB; have B6 : w6.heap[w2.heap.size]? = some (.cells #[.int .i64 (ad p), .int .i64 p.length, .int .i64 (-1), .int .i64 (-1), .bool true, .int .i64 v] 64 (0, 0)) := (hBB.block _ (Array.getElem?_eq_some_iff.1 B5.out).1).trans B5.out; have HB6 := Aside0.mk (below_step HB5.out hBB); clear hb6 hBB o0 o1 o2 o3 o4 o5 c0 c1 c2 c3 c4 d0 d1 d2 d3 d4 d5 p5 p6 hfz; have o0 := blk_c B6 0; have o1 := blk_c B6 1; have o2 := blk_c B6 2; have o3 := blk_c B6 3; have o4 := blk_c B6 4; have o5 := blk_c B6 5; simp only [List.getElem?_toArray, List.getElem?_cons_zero, List.getElem?_cons_succ] at o0 o1 o2 o3 o4 o5; have of := blk_f B6; have B6 := Aside0.mk B6; have H6 := Aside0.mk H6)
    | (go_at_call 29; refine (bits_Bit.calls _ _ _ _ HQ.out).mono ?_; rintro e w7 ⟨rfl, ⟨nz, rfl⟩⟩)
    | (go_at_call 27; refine (node_any (base := base) (sl := .slice (some ⟨ab, 0, none⟩) s.ns.length cap) (s := s) ?hT HR.out.pool hUl' ⟨(ad p : Int), (p.length : Int), -1, (m : Int), true, v⟩ hu0 hu1').mono ?_; (case hT => repeat (first | exact H6.out | apply TM.drewN | apply TM.alloc | refine TM.far ?_ HNE.out.1 HNE.out.2)); rintro e w8 ⟨sl3, rfl, T3, F3, A3⟩; obtain ⟨bb, oo, P3⟩ := plc_any T3 HPL.out; obtain ⟨kk, pc⟩ := P3.cell; have pf := P3.free; have d0 := T3.cs.1; have T3 := Aside0.mk T3; have F3 := Aside0.mk F3; have P3 := Aside0.mk P3; have A3 := Aside0.mk A3)
    | (go_at_call 28; refine (P3.out.call _ d0).mono ?_; rintro e w9 ⟨rfl, rfl⟩))
  go_ret
  rw [HBIT.out]
  refine put_end P3.out T3.out F3.out A3.out ?_
  repeat (first | exact Fr.of_below HB6.out g _ | apply Fr.drewN | apply Fr.alloc | refine Fr.set ?_ (.inr (.inr hle2)) _)
end Go.Proofs.Ytjffikckddijmaa
namespace Go.Proofs.Ytjffikckddijmaa
open Go.RowKit Go.Proofs.YtjffikckddijmaaW.PrintWords Go.Proofs.YtjffikckddijmaaW.PrintLast Go.Proofs.YtjffikckddijmaaW.PrintMore
open All All.BM
attribute [local go_sem] max2_int min2_int max_two min_two max_three min_three max_four min_four
set_option linter.unusedVariables false
set_option linter.unusedSimpArgs false
attribute [local go_sem high] eqA31 eqA33
theorem k_set {w : World} {b o : Nat} {a : Addr} {u v : Value} (hne : b ≠ a.block) (h : w.cell? a = some v) : (w.setCell ⟨b, o, none⟩ u).cell? a = some v := (cell_far (p := ⟨b, o, none⟩) (Ne.symm hne) u).trans h
theorem k_drewN {w : World} {a : Addr} {v : Value} (n : Nat) (h : w.cell? a = some v) : (w.drewN n).cell? a = some v := h
theorem k_drew {w : World} {a : Addr} {v : Value} (h : w.cell? a = some v) : w.drew.cell? a = some v := h
theorem k_alloc {w : World} {a : Addr} {v : Value} (o : Obj) (h : w.cell? a = some v) : (w.alloc o).cell? a = some v := pw_cell_below ((Below.refl _ _).alloc (Nat.le_refl _) o) h
theorem put_end2 {w W w3 : World} {base g : Nat} {sl sl1 sl3 : Value} {s3 : St} {pl : Option (Nat × Bool)} {side : Int} {b o : Nat} {v : Int} (P : Plc w3 base g sl3 s3 pl side b o) (T3 : TM w3 base g sl3 s3) (F3 : Fr W w3 g sl1.ownBlock)
    (A3 : sl3.ownBlock = sl1.ownBlock ∨ ∃ k, sl3.ownBlock = some k ∧ W.heap.size ≤ k) (F : Fr w W g sl.ownBlock) (A1 : sl1.ownBlock = sl.ownBlock ∨ ∃ k, sl1.ownBlock = some k ∧ w.heap.size ≤ k) : Did w base g sl (.int .i64 0) (s3.put pl v) (.returned (.int .i64 0)) (w3.setCell ⟨b, o, none⟩ (.int .i64 v)) := by
  have A : sl3.ownBlock = sl.ownBlock ∨ ∃ k, sl3.ownBlock = some k ∧ w.heap.size ≤ k := A3.elim (fun e => A1.elim (fun e1 => .inl (e.trans e1)) (fun ⟨k, e1, hk⟩ => .inr ⟨k, e.trans e1, hk⟩)) fun ⟨k, e, hk⟩ => .inr ⟨k, e, Nat.le_trans F.size hk⟩
  refine ⟨sl3, rfl, P.set _ _ T3, Fr.set (F.trans F3 A1) ?_ _, A⟩
  rcases P.fr with h | h
  · exact .inl h
  · rcases A with e | ⟨k, e, hk⟩
    · exact .inr (.inl (h.trans e))
    · refine .inr (.inr ?_)
      rw [e] at h
      injection h with h
      show w.heap.size ≤ b
      omega
theorem Fr.cell {w w1 : World} {g : Nat} {a : Option Nat} (h : Fr w w1 g a) {b o : Nat} {u : Value} (hc : w.cell? ⟨b, o, none⟩ = some u) (hg : b ≠ g) (ha : some b ≠ a) : w1.cell? ⟨b, o, none⟩ = some u :=
  (World.cell?_of_block (a := ⟨b, o, none⟩) (h.block b (World.block_lt_of_cell? w _ hc) hg ha)).trans hc
set_option maxHeartbeats 4000000 in
set_option maxRecDepth 100000 in
theorem put_D0 {w : World} {base g : Nat} {sl : Value} {s : St} (h : TM w base g sl s) {t : T} {fl : List Nat} (hR : Rep0 s t fl) (p : K) (hp : p.length ≤ 32) (v : Int) (hr : (s.room == 0) = false)
    {m : Nat} {q : K} {sv : Option Int} {l r : T} (hs : T.sub p t = .nd m q sv l r) (hne : q ≠ p) (hlt : (lcp p q).length < p.length) (hu0 : 0 ≤ s.used) (hu1 : s.used ≤ 1000) (hfull : s.room < s.used + 2) :
    Calls Try.prog 14 #[.pointer (some ⟨g, 0, none⟩), .agg #[.int .i64 (ad p), .int .i64 p.length], .int .i64 v] w (Did w base g sl (.int .i64 7) s) := by
  have HM := Aside0.mk (may_yes hp)
  have H := Aside0.mk h
  have HR := Aside0.mk hR
  obtain ⟨x, hx, hnd, -, -, hmt⟩ := hR.subNode hs
  have HX := Aside0.mk hx
  have hnd := Aside0.mk hnd
  have hq : q.length ≤ 32 := hR.short q (by
    have := T.sub_keys (p := p) (t := t) (k := q) (by rw [hs]; simp [T.keys])
    exact this)
  have hat : rootOf (T.sub p t) = (m : Int) := by rw [hs]; rfl
  have hg := h.lt
  have hwr : IntKind.i64.wrap (s.used + 2) = s.used + 2 := IntWalk.i64_in _ (by omega)
  have hd1 : decide (s.room < s.used + 2) = true := by simpa using hfull
  have HC := Aside0.mk (t_common hp hq)
  have hl1 : decide (((lcp p q).length : Int) < (p.length : Int)) = true := by simpa using hlt
  have hl2 : decide ((lcp p q).length < p.length) = true := by simpa using hlt
  have hk1 := key_ne hp hq hne
  have hk2 := key_ne' hp hq hne
  have hUl : t.idx.length + 0 ≤ 1000 := by rw [T.size_idx]; have := hR.used; omega
  clear h hR hs hx hfull hlt hne hmt
  have HAT := Aside0.mk hat
  clear hat
  go_enter Try.func14, Try.ntmps14
  go_wp2_with (first
    | (go_at_call 18; refine (bits_May.calls _ _ _ _ HM.out).mono ?_; rintro e w1 ⟨rfl, hb⟩; have hB1 : Below w.heap.size w w1 := below_step ((Below.refl _ _).alloc (Nat.le_refl _) _) hb; have q0 : w1.cell? ⟨w.heap.size, 0, none⟩ = some (.int .i64 (ad p)) := pw_cell_below hb (by go_simp); have q1 : w1.cell? ⟨w.heap.size, 1, none⟩ = some (.int .i64 p.length) := pw_cell_below hb (by go_simp); have H1 := H.out.below hB1; obtain ⟨c0, c1, c2, c3, c4⟩ := H1.cs; have H1 := Aside0.mk H1; have HB1 := Aside0.mk hB1; clear hb hB1)
    | (go_at_call 25; refine (seek_p H1.out HR.out hp).mono ?_; rintro e w2 ⟨rfl, hb⟩; have p0 : w2.cell? ⟨w.heap.size, 0, none⟩ = some (.int .i64 (ad p)) := pw_cell_below hb q0; have p1 : w2.cell? ⟨w.heap.size, 1, none⟩ = some (.int .i64 p.length) := pw_cell_below hb q1; have H2 := H1.out.below hb; clear q0 q1 c0 c1 c2 c3 c4; obtain ⟨c0, c1, c2, c3, c4⟩ := H2.cs; have H2 := Aside0.mk H2; have HB2 := Aside0.mk (below_step HB1.out hb); clear hb; rw [HAT.out]))
  obtain ⟨ab, cap, e, hba, hab, hag, hi, d0, d1, d2, d3, d4, d5, hfz⟩ := H2.out.node HX.out
  rw [hnd.out.a] at d0
  rw [hnd.out.n] at d1
  have hcap := H2.out.few
  subst e
  have hm1 : ((m : Int) != -1) = true := by rw [bne_iff_ne]; omega
  have hm2 : ((m : Int) == -1) = false := by rw [beq_eq_false_iff_ne]; omega
  have hga : g ≠ ab := fun e => hag e.symm
  have hg2 := H2.out.lt
  have hgp := World.block_lt_of_cell? w2 _ p0
  go_quiet (fail)
  go_wp2
  go_region_held3 (fun w' => w'.cell? ⟨g, 0, none⟩ = some (.slice (some ⟨ab, 0, none⟩) s.ns.length cap) ∧ w'.cell? ⟨ab, m * 6, none⟩ = some (.int .i64 (ad q)) ∧ w'.cell? ⟨ab, m * 6 + 1, none⟩ = some (.int .i64 q.length) ∧ w'.cell? ⟨w.heap.size, 0, none⟩ = some (.int .i64 (ad p)) ∧ w'.cell? ⟨w.heap.size, 1, none⟩ = some (.int .i64 p.length))
    (first | go_keep | (go_split_ands; exact ⟨pw_cell_below hb5 (by assumption), pw_cell_below hb5 (by assumption), pw_cell_below hb5 (by assumption), pw_cell_below hb5 (by assumption), pw_cell_below hb5 (by assumption)⟩))
    (first | (go_at_call 26; refine (trie_common.calls _ _ _ _ _ _ HC.out).mono ?_; rintro e w5 ⟨rfl, hb5⟩))
  rename_i hHeld
  clear hHeld
  have B5 : w5.heap[w2.heap.size]? = some (.cells #[.int .i64 (ad p), .int .i64 p.length, .int .i64 (-1), .int .i64 (-1), .bool true, .int .i64 v] 64 (0, 0)) := (hb5.block w2.heap.size (by simp)).trans (by
    have := heap_alloc_new w2 (.cells #[.int .i64 (ad p), .int .i64 p.length, .int .i64 (-1), .int .i64 (-1), .bool true, .int .i64 v] 64)
    exact this)
  have hBB : Below w2.heap.size w2 w5 := below_then (by repeat (first | exact Below.refl _ _ | apply pw_below_drewN | apply below_drew1 | apply below_alloc)) (by simp) hb5
  have H5 := H2.out.below hBB
  have p5 := pw_cell_below hBB p0
  have p6 := pw_cell_below hBB p1
  have HB5 := Aside0.mk (below_step HB2.out hBB)
  clear hb5 hBB p0 p1 d0 d1 d2 d3 d4 d5 hfz c0 c1 c2 c3 c4 hab hba
  obtain ⟨c0, c1, c2, c3, c4⟩ := H5.cs
  obtain ⟨ab', cap', e, -, hab, -, -, d0, d1, d2, d3, d4, d5, hfz⟩ := H5.node HX.out
  injection e with e _ e2
  injection e with e
  injection e with e
  subst e
  rw [hnd.out.a] at d0
  rw [hnd.out.n] at d1
  have hg5 := H5.lt
  have hgp5 := World.block_lt_of_cell? w5 _ p5
  have H5 := Aside0.mk H5
  have HNE : Aside0 (w2.heap.size ≠ g ∧ some w2.heap.size ≠ (Value.slice (some ⟨ab, 0, none⟩) s.ns.length cap).ownBlock) := ⟨by omega, by have := (H2.out.row.lt ab rfl).2; simp only [Value.ownBlock, ne_eq, Option.some.injEq]; omega⟩
  have hle2 : w.heap.size ≤ w2.heap.size := by omega
  clear e2 hk1 hk2 hg2 hgp
  go_wp2
  go_quiet (fail)
  go_wp2
  go_ret
  exact ⟨_, rfl, by repeat (first | exact H5.out | apply TM.drewN | apply TM.alloc), by repeat (first | exact Fr.of_below HB5.out g _ | apply Fr.drewN | apply Fr.alloc), .inl rfl⟩
set_option maxHeartbeats 4000000 in
set_option maxRecDepth 100000 in
theorem put_D1f {w : World} {base g : Nat} {sl : Value} {s : St} (h : TM w base g sl s) {t : T} {fl : List Nat} (hR : Rep0 s t fl) (p : K) (hp : p.length ≤ 32) (v : Int) (hr : (s.room == 0) = false)
    {m : Nat} {q : K} {sv : Option Int} {l r : T} (hs : T.sub p t = .nd m q sv l r) (hne : q ≠ p) (hlt : (lcp p q).length < p.length) (hu0 : 0 ≤ s.used) (hu1 : s.used < 999) (hfull : ¬ s.room < s.used + 2) (hbit : bitOf p (lcp p q).length = false) (hbit2 : bitOf q (lcp p q).length = true) :
    Calls Try.prog 14 #[.pointer (some ⟨g, 0, none⟩), .agg #[.int .i64 (ad p), .int .i64 p.length], .int .i64 v] w (Did w base g sl (.int .i64 0) (((s.add (own p v)).2.add (fork (lcp p q) (bitOf p (lcp p q).length) (s.add (own p v)).1 m)).2.put (plc p t) ((s.add (own p v)).2.add (fork (lcp p q) (bitOf p (lcp p q).length) (s.add (own p v)).1 m)).1)) := by
  have HM := Aside0.mk (may_yes hp)
  have H := Aside0.mk h
  have HR := Aside0.mk hR
  obtain ⟨x, hx, hnd, -, -, hmt⟩ := hR.subNode hs
  have HX := Aside0.mk hx
  have hnd := Aside0.mk hnd
  have hq : q.length ≤ 32 := hR.short q (by
    have := T.sub_keys (p := p) (t := t) (k := q) (by rw [hs]; simp [T.keys])
    exact this)
  have hat : rootOf (T.sub p t) = (m : Int) := by rw [hs]; rfl
  have hg := h.lt
  have hwr : IntKind.i64.wrap (s.used + 2) = s.used + 2 := IntWalk.i64_in _ (by omega)
  have hd1 : decide (s.room < s.used + 2) = false := by simpa using hfull
  have HC := Aside0.mk (t_common hp hq)
  have hl1 : decide (((lcp p q).length : Int) < (p.length : Int)) = true := by simpa using hlt
  have hl2 : decide ((lcp p q).length < p.length) = true := by simpa using hlt
  have hk1 := key_ne hp hq hne
  have hk2 := key_ne' hp hq hne
  have hUl : t.idx.length + 2 ≤ 1000 := by rw [T.size_idx]; have := hR.used; omega
  have HQ := Aside0.mk (t_BitK hp (lcp p q).length)
  rw [hbit] at HQ
  have HQ2 := Aside0.mk (t_BitK hq (lcp p q).length)
  rw [hbit2] at HQ2
  have HBIT := Aside0.mk hbit
  have hcut := t_Cut hp (c := (lcp p q).length) (lcp_left p q).length_le
  rw [← List.prefix_iff_eq_take.1 (lcp_left p q)] at hcut
  have HCUT := Aside0.mk hcut
  clear hbit hbit2 hcut
  clear h hR hs hx hfull hlt hne hmt
  have HAT := Aside0.mk hat
  clear hat
  go_enter Try.func14, Try.ntmps14
  go_wp2_with (first
    | (go_at_call 18; refine (bits_May.calls _ _ _ _ HM.out).mono ?_; rintro e w1 ⟨rfl, hb⟩; have hB1 : Below w.heap.size w w1 := below_step ((Below.refl _ _).alloc (Nat.le_refl _) _) hb; have q0 : w1.cell? ⟨w.heap.size, 0, none⟩ = some (.int .i64 (ad p)) := pw_cell_below hb (by go_simp); have q1 : w1.cell? ⟨w.heap.size, 1, none⟩ = some (.int .i64 p.length) := pw_cell_below hb (by go_simp); have H1 := H.out.below hB1; obtain ⟨c0, c1, c2, c3, c4⟩ := H1.cs; have H1 := Aside0.mk H1; have HB1 := Aside0.mk hB1; clear hb hB1)
    | (go_at_call 25; refine (seek_p H1.out HR.out hp).mono ?_; rintro e w2 ⟨rfl, hb⟩; have p0 : w2.cell? ⟨w.heap.size, 0, none⟩ = some (.int .i64 (ad p)) := pw_cell_below hb q0; have p1 : w2.cell? ⟨w.heap.size, 1, none⟩ = some (.int .i64 p.length) := pw_cell_below hb q1; have H2 := H1.out.below hb; clear q0 q1 c0 c1 c2 c3 c4; obtain ⟨c0, c1, c2, c3, c4⟩ := H2.cs; have H2 := Aside0.mk H2; have HB2 := Aside0.mk (below_step HB1.out hb); clear hb; rw [HAT.out]))
  obtain ⟨ab, cap, e, hba, hab, hag, hi, d0, d1, d2, d3, d4, d5, hfz⟩ := H2.out.node HX.out
  rw [hnd.out.a] at d0
  rw [hnd.out.n] at d1
  have hcap := H2.out.few
  subst e
  have hm1 : ((m : Int) != -1) = true := by rw [bne_iff_ne]; omega
  have hm2 : ((m : Int) == -1) = false := by rw [beq_eq_false_iff_ne]; omega
  have hga : g ≠ ab := fun e => hag e.symm
  have hg2 := H2.out.lt
  have hgp := World.block_lt_of_cell? w2 _ p0
  go_quiet (fail)
  go_wp2
  go_region_held3 (fun w' => w'.cell? ⟨g, 0, none⟩ = some (.slice (some ⟨ab, 0, none⟩) s.ns.length cap) ∧ w'.cell? ⟨ab, m * 6, none⟩ = some (.int .i64 (ad q)) ∧ w'.cell? ⟨ab, m * 6 + 1, none⟩ = some (.int .i64 q.length) ∧ w'.cell? ⟨w.heap.size, 0, none⟩ = some (.int .i64 (ad p)) ∧ w'.cell? ⟨w.heap.size, 1, none⟩ = some (.int .i64 p.length))
    (first | go_keep | (go_split_ands; exact ⟨pw_cell_below hb5 (by assumption), pw_cell_below hb5 (by assumption), pw_cell_below hb5 (by assumption), pw_cell_below hb5 (by assumption), pw_cell_below hb5 (by assumption)⟩))
    (first | (go_at_call 26; refine (trie_common.calls _ _ _ _ _ _ HC.out).mono ?_; rintro e w5 ⟨rfl, hb5⟩))
  rename_i hHeld
  clear hHeld
  have B5 : w5.heap[w2.heap.size]? = some (.cells #[.int .i64 (ad p), .int .i64 p.length, .int .i64 (-1), .int .i64 (-1), .bool true, .int .i64 v] 64 (0, 0)) := (hb5.block w2.heap.size (by simp)).trans (by
    have := heap_alloc_new w2 (.cells #[.int .i64 (ad p), .int .i64 p.length, .int .i64 (-1), .int .i64 (-1), .bool true, .int .i64 v] 64)
    exact this)
  have hBB : Below w2.heap.size w2 w5 := below_then (by repeat (first | exact Below.refl _ _ | apply pw_below_drewN | apply below_drew1 | apply below_alloc)) (by simp) hb5
  have H5 := H2.out.below hBB
  have p5 := pw_cell_below hBB p0
  have p6 := pw_cell_below hBB p1
  have HB5 := Aside0.mk (below_step HB2.out hBB)
  clear hb5 hBB p0 p1 d0 d1 d2 d3 d4 d5 hfz c0 c1 c2 c3 c4 hab hba
  obtain ⟨c0, c1, c2, c3, c4⟩ := H5.cs
  obtain ⟨ab', cap', e, -, hab, -, -, d0, d1, d2, d3, d4, d5, hfz⟩ := H5.node HX.out
  injection e with e _ e2
  injection e with e
  injection e with e
  subst e
  rw [hnd.out.a] at d0
  rw [hnd.out.n] at d1
  have hg5 := H5.lt
  have hgp5 := World.block_lt_of_cell? w5 _ p5
  have H5 := Aside0.mk H5
  have HNE : Aside0 (w2.heap.size ≠ g ∧ some w2.heap.size ≠ (Value.slice (some ⟨ab, 0, none⟩) s.ns.length cap).ownBlock) := ⟨by omega, by have := (H2.out.row.lt ab rfl).2; simp only [Value.ownBlock, ne_eq, Option.some.injEq]; omega⟩
  have hle2 : w.heap.size ≤ w2.heap.size := by omega
  clear e2 hk1 hk2 hg2 hgp
  go_wp2
  go_quiet (fail)
  have H5 : TM (w5.drewN nq) base g (.slice (some ⟨ab, 0, none⟩) s.ns.length cap) s := H5.out.drewN nq
  have B5 : (w5.drewN nq).heap[w2.heap.size]? = some (.cells #[.int .i64 (ad p), .int .i64 p.length, .int .i64 (-1), .int .i64 (-1), .bool true, .int .i64 v] 64 (0, 0)) := B5
  have p5 : (w5.drewN nq).cell? ⟨w.heap.size, 0, none⟩ = some (.int .i64 (ad p)) := p5
  have p6 : (w5.drewN nq).cell? ⟨w.heap.size, 1, none⟩ = some (.int .i64 p.length) := p6
  have HB5 : Below w.heap.size w (w5.drewN nq) := pw_below_drewN HB5.out nq
  clear c0 c1 c2 c3 c4 d0 d1 d2 d3 d4 d5 hfz hg5 hgp5 hab
  generalize w5.drewN nq = W at H5 B5 p5 p6 HB5 ⊢
  obtain ⟨c0, c1, c2, c3, c4⟩ := H5.cs
  obtain ⟨ab', cap', e, -, hab, -, -, d0, d1, d2, d3, d4, d5, hfz⟩ := H5.node HX.out
  injection e with e _ e2
  injection e with e
  injection e with e
  subst e
  rw [hnd.out.a] at d0
  rw [hnd.out.n] at d1
  have hg5 := H5.lt
  have hgp5 := World.block_lt_of_cell? W _ p5
  have hgo := (Array.getElem?_eq_some_iff.1 B5).1
  have H5 := Aside0.mk H5
  have HB5 := Aside0.mk HB5
  clear e2
  have o0 := blk_c B5 0
  have o1 := blk_c B5 1
  have o2 := blk_c B5 2
  have o3 := blk_c B5 3
  have o4 := blk_c B5 4
  have o5 := blk_c B5 5
  simp only [List.getElem?_toArray, List.getElem?_cons_zero, List.getElem?_cons_succ] at o0 o1 o2 o3 o4 o5
  have hn1 := HNE.out.1
  have hn2 := HNE.out.2
  have hu1' : s.used ≤ 1000 := by omega
  have hUl' : t.idx.length < 1000 := by omega
  have B5 := Aside0.mk B5
  have hWg : W.heap.size ≠ g := by omega
  have hWa : W.heap.size ≠ ab := by omega
  have hwg : w.heap.size ≠ g := by omega
  have hwa : w.heap.size ≠ ab := by have := (H.out.row.lt ab rfl).2; omega
  go_wp2_with (first
    | (go_at_call 26; refine (trie_common.calls _ _ _ _ _ _ HC.out).mono ?_; rintro e w6 ⟨rfl, hb6⟩; have r0 : w6.cell? ⟨W.heap.size, 0, none⟩ = some (.int .i64 (ad q)) := pw_cell_below hb6 (by go_simp); have hBB : Below W.heap.size W w6 := below_then (by repeat (first | exact Below.refl _ _ | apply pw_below_drewN | apply below_drew1 | apply below_alloc)) (by simp) hb6; have H6 := H5.out.below hBB; have B6 : w6.heap[w2.heap.size]? = some (.cells #[.int .i64 (ad p), .int .i64 p.length, .int .i64 (-1), .int .i64 (-1), .bool true, .int .i64 v] 64 (0, 0)) := (hBB.block _ (Array.getElem?_eq_some_iff.1 B5.out).1).trans B5.out; have HB6 := Aside0.mk (below_step HB5.out hBB); have p7 : w6.cell? ⟨w.heap.size, 0, none⟩ = some (.int .i64 (ad p)) := pw_cell_below hBB p5; clear hb6 hBB o0 o1 o2 o3 o4 o5 c0 c1 c2 c3 c4 d0 d1 d2 d3 d4 d5 p5 p6 hfz; have o0 := blk_c B6 0; have o1 := blk_c B6 1; have o2 := blk_c B6 2; have o3 := blk_c B6 3; have o4 := blk_c B6 4; have o5 := blk_c B6 5; simp only [List.getElem?_toArray, List.getElem?_cons_zero, List.getElem?_cons_succ] at o0 o1 o2 o3 o4 o5; have of := blk_f B6; have B6 := Aside0.mk B6; have H6 := Aside0.mk H6)
    | (go_at_call 27; refine (node_any (base := base) (sl := .slice (some ⟨ab, 0, none⟩) s.ns.length cap) (s := s) ?hT HR.out.pool hUl' ⟨(ad p : Int), (p.length : Int), -1, -1, true, v⟩ hu0 hu1').mono ?_; (case hT => repeat (first | exact H6.out | apply TM.drewN | apply TM.alloc)); rintro e w8 ⟨sl1, rfl, T1, F1, A1⟩; have u0 := F1.cell p7 hwg (by simp only [Value.ownBlock, ne_eq, Option.some.injEq]; exact hwa); have u1 := F1.cell r0 hWg (by simp only [Value.ownBlock, ne_eq, Option.some.injEq]; exact hWa); have T1 := Aside0.mk T1; have F1 := Aside0.mk (Fr.trans (w1 := w6) (Fr.of_below HB6.out g (some ab)) F1 (.inl rfl)); have A1 := Aside0.mk (A1.elim .inl fun ⟨k, e, hk⟩ => .inr ⟨k, e, Nat.le_trans HB6.out.size hk⟩ : sl1.ownBlock = some ab ∨ ∃ k, sl1.ownBlock = some k ∧ w.heap.size ≤ k))
    | (go_at_call 30; refine (bits_Cut.calls _ _ _ _ _ HCUT.out).mono ?_; rintro e w9 ⟨rfl, hb9⟩; have z0 := pw_cell_below hb9 u0; have z1 := pw_cell_below hb9 u1; have T2 := Aside0.mk (T1.out.below hb9); have F2 := Aside0.mk (Fr.trans F1.out (Fr.of_below hb9 g (some ab)) (.inl rfl)); clear hb9 u0 u1))
  have hz0 := World.block_lt_of_cell? w9 _ z0
  have hz1 := World.block_lt_of_cell? w9 _ z1
  have HN2 : Aside0 (w9.heap.size ≠ g ∧ some w9.heap.size ≠ sl1.ownBlock) := ⟨by have := T2.out.lt; omega, fun e => by have := (T2.out.row.lt _ e.symm).2; omega⟩
  obtain ⟨i1, fl1, e1, pool1, -, -, -, -, -, eu1⟩ := HR.out.pool.add (own p v)
  have hU1 : (t.idx ++ [i1]).length < 1000 := by simp only [List.length_append, List.length_cons, List.length_nil]; omega
  have hv0 : 0 ≤ (s.add (own p v)).2.used := by omega
  have hv1 : (s.add (own p v)).2.used ≤ 1000 := by omega
  have HPL := Aside0.mk (fun i b (e : plc p t = some (i, b)) => Nat.lt_of_lt_of_le (HR.out.plcLt e) (Nat.le_trans (s.add_len (own p v)) ((s.add (own p v)).2.add_len ⟨(ad (lcp p q) : Int), ((lcp p q).length : Int), (s.add (own p v)).1, (m : Int), false, 0⟩)))
  have pool1 := Aside0.mk pool1
  clear e1 eu1
  go_region_held3 (fun w' => w'.cell? ⟨w.heap.size, 0, none⟩ = some (.int .i64 (ad p)) ∧ w'.cell? ⟨W.heap.size, 0, none⟩ = some (.int .i64 (ad q)))
    (first | go_keep | (go_split_ands; refine ⟨?_, ?_⟩ <;> (repeat (first | exact z0 | exact z1 | refine k_drewN _ ?_ | refine k_drew ?_ | refine k_alloc _ ?_ | refine k_set (Nat.ne_of_gt hz0) ?_ | refine k_set (Nat.ne_of_gt hz1) ?_))))
    (first
      | (go_at_call 29; ((with_reducible refine (bits_Bit.calls _ _ _ _ HQ.out).mono ?_); rintro e w10 ⟨rfl, ⟨n1, rfl⟩⟩))
      | (go_at_call 29; ((with_reducible refine (bits_Bit.calls _ _ _ _ HQ2.out).mono ?_); rintro e w10 ⟨rfl, ⟨n2, rfl⟩⟩)))
  go_wp2_with (first
    | (go_at_call 27; refine (node_any (base := base) (sl := sl1) (s := (s.add (own p v)).2) ?hT pool1.out hU1 ⟨(ad (lcp p q) : Int), ((lcp p q).length : Int), (s.add (own p v)).1, (m : Int), false, 0⟩ hv0 hv1).mono ?_; (case hT => repeat (first | exact T2.out | apply TM.drewN | apply TM.drew | apply TM.alloc | refine TM.far ?_ HN2.out.1 HN2.out.2)); rintro e w11 ⟨sl3, rfl, T3, F3, A3⟩; obtain ⟨bb, oo, P3⟩ := plc_any T3 HPL.out; obtain ⟨kk, pc⟩ := P3.cell; have pf := P3.free; have d0 := T3.cs.1; have T3 := Aside0.mk T3; have F3 := Aside0.mk F3; have P3 := Aside0.mk P3; have A3 := Aside0.mk A3)
    | (go_at_call 28; refine (P3.out.call _ d0).mono ?_; rintro e w12 ⟨rfl, rfl⟩))
  go_ret
  rw [HBIT.out]
  refine put_end2 P3.out T3.out F3.out A3.out ?_ A1.out
  repeat (first | exact F2.out | apply Fr.drewN | apply Fr.drew | apply Fr.alloc | refine Fr.set ?_ (.inr (.inr (Nat.le_of_lt hz0))) _)
set_option maxHeartbeats 4000000 in
set_option maxRecDepth 100000 in
theorem put_D1t {w : World} {base g : Nat} {sl : Value} {s : St} (h : TM w base g sl s) {t : T} {fl : List Nat} (hR : Rep0 s t fl) (p : K) (hp : p.length ≤ 32) (v : Int) (hr : (s.room == 0) = false)
    {m : Nat} {q : K} {sv : Option Int} {l r : T} (hs : T.sub p t = .nd m q sv l r) (hne : q ≠ p) (hlt : (lcp p q).length < p.length) (hu0 : 0 ≤ s.used) (hu1 : s.used < 999) (hfull : ¬ s.room < s.used + 2) (hbit : bitOf p (lcp p q).length = true) (hbit2 : bitOf q (lcp p q).length = false) :
    Calls Try.prog 14 #[.pointer (some ⟨g, 0, none⟩), .agg #[.int .i64 (ad p), .int .i64 p.length], .int .i64 v] w (Did w base g sl (.int .i64 0) (((s.add (own p v)).2.add (fork (lcp p q) (bitOf p (lcp p q).length) (s.add (own p v)).1 m)).2.put (plc p t) ((s.add (own p v)).2.add (fork (lcp p q) (bitOf p (lcp p q).length) (s.add (own p v)).1 m)).1)) := by
  have HM := Aside0.mk (may_yes hp)
  have H := Aside0.mk h
  have HR := Aside0.mk hR
  obtain ⟨x, hx, hnd, -, -, hmt⟩ := hR.subNode hs
  have HX := Aside0.mk hx
  have hnd := Aside0.mk hnd
  have hq : q.length ≤ 32 := hR.short q (by
    have := T.sub_keys (p := p) (t := t) (k := q) (by rw [hs]; simp [T.keys])
    exact this)
  have hat : rootOf (T.sub p t) = (m : Int) := by rw [hs]; rfl
  have hg := h.lt
  have hwr : IntKind.i64.wrap (s.used + 2) = s.used + 2 := IntWalk.i64_in _ (by omega)
  have hd1 : decide (s.room < s.used + 2) = false := by simpa using hfull
  have HC := Aside0.mk (t_common hp hq)
  have hl1 : decide (((lcp p q).length : Int) < (p.length : Int)) = true := by simpa using hlt
  have hl2 : decide ((lcp p q).length < p.length) = true := by simpa using hlt
  have hk1 := key_ne hp hq hne
  have hk2 := key_ne' hp hq hne
  have hUl : t.idx.length + 2 ≤ 1000 := by rw [T.size_idx]; have := hR.used; omega
  have HQ := Aside0.mk (t_BitK hp (lcp p q).length)
  rw [hbit] at HQ
  have HQ2 := Aside0.mk (t_BitK hq (lcp p q).length)
  rw [hbit2] at HQ2
  have HBIT := Aside0.mk hbit
  have hcut := t_Cut hp (c := (lcp p q).length) (lcp_left p q).length_le
  rw [← List.prefix_iff_eq_take.1 (lcp_left p q)] at hcut
  have HCUT := Aside0.mk hcut
  clear hbit hbit2 hcut
  clear h hR hs hx hfull hlt hne hmt
  have HAT := Aside0.mk hat
  clear hat
  go_enter Try.func14, Try.ntmps14
  go_wp2_with (first
    | (go_at_call 18; refine (bits_May.calls _ _ _ _ HM.out).mono ?_; rintro e w1 ⟨rfl, hb⟩; have hB1 : Below w.heap.size w w1 := below_step ((Below.refl _ _).alloc (Nat.le_refl _) _) hb; have q0 : w1.cell? ⟨w.heap.size, 0, none⟩ = some (.int .i64 (ad p)) := pw_cell_below hb (by go_simp); have q1 : w1.cell? ⟨w.heap.size, 1, none⟩ = some (.int .i64 p.length) := pw_cell_below hb (by go_simp); have H1 := H.out.below hB1; obtain ⟨c0, c1, c2, c3, c4⟩ := H1.cs; have H1 := Aside0.mk H1; have HB1 := Aside0.mk hB1; clear hb hB1)
    | (go_at_call 25; refine (seek_p H1.out HR.out hp).mono ?_; rintro e w2 ⟨rfl, hb⟩; have p0 : w2.cell? ⟨w.heap.size, 0, none⟩ = some (.int .i64 (ad p)) := pw_cell_below hb q0; have p1 : w2.cell? ⟨w.heap.size, 1, none⟩ = some (.int .i64 p.length) := pw_cell_below hb q1; have H2 := H1.out.below hb; clear q0 q1 c0 c1 c2 c3 c4; obtain ⟨c0, c1, c2, c3, c4⟩ := H2.cs; have H2 := Aside0.mk H2; have HB2 := Aside0.mk (below_step HB1.out hb); clear hb; rw [HAT.out]))
  obtain ⟨ab, cap, e, hba, hab, hag, hi, d0, d1, d2, d3, d4, d5, hfz⟩ := H2.out.node HX.out
  rw [hnd.out.a] at d0
  rw [hnd.out.n] at d1
  have hcap := H2.out.few
  subst e
  have hm1 : ((m : Int) != -1) = true := by rw [bne_iff_ne]; omega
  have hm2 : ((m : Int) == -1) = false := by rw [beq_eq_false_iff_ne]; omega
  have hga : g ≠ ab := fun e => hag e.symm
  have hg2 := H2.out.lt
  have hgp := World.block_lt_of_cell? w2 _ p0
  go_quiet (fail)
  go_wp2
  go_region_held3 (fun w' => w'.cell? ⟨g, 0, none⟩ = some (.slice (some ⟨ab, 0, none⟩) s.ns.length cap) ∧ w'.cell? ⟨ab, m * 6, none⟩ = some (.int .i64 (ad q)) ∧ w'.cell? ⟨ab, m * 6 + 1, none⟩ = some (.int .i64 q.length) ∧ w'.cell? ⟨w.heap.size, 0, none⟩ = some (.int .i64 (ad p)) ∧ w'.cell? ⟨w.heap.size, 1, none⟩ = some (.int .i64 p.length))
    (first | go_keep | (go_split_ands; exact ⟨pw_cell_below hb5 (by assumption), pw_cell_below hb5 (by assumption), pw_cell_below hb5 (by assumption), pw_cell_below hb5 (by assumption), pw_cell_below hb5 (by assumption)⟩))
    (first | (go_at_call 26; refine (trie_common.calls _ _ _ _ _ _ HC.out).mono ?_; rintro e w5 ⟨rfl, hb5⟩))
  rename_i hHeld
  clear hHeld
  have B5 : w5.heap[w2.heap.size]? = some (.cells #[.int .i64 (ad p), .int .i64 p.length, .int .i64 (-1), .int .i64 (-1), .bool true, .int .i64 v] 64 (0, 0)) := (hb5.block w2.heap.size (by simp)).trans (by
    have := heap_alloc_new w2 (.cells #[.int .i64 (ad p), .int .i64 p.length, .int .i64 (-1), .int .i64 (-1), .bool true, .int .i64 v] 64)
    exact this)
  have hBB : Below w2.heap.size w2 w5 := below_then (by repeat (first | exact Below.refl _ _ | apply pw_below_drewN | apply below_drew1 | apply below_alloc)) (by simp) hb5
  have H5 := H2.out.below hBB
  have p5 := pw_cell_below hBB p0
  have p6 := pw_cell_below hBB p1
  have HB5 := Aside0.mk (below_step HB2.out hBB)
  clear hb5 hBB p0 p1 d0 d1 d2 d3 d4 d5 hfz c0 c1 c2 c3 c4 hab hba
  obtain ⟨c0, c1, c2, c3, c4⟩ := H5.cs
  obtain ⟨ab', cap', e, -, hab, -, -, d0, d1, d2, d3, d4, d5, hfz⟩ := H5.node HX.out
  injection e with e _ e2
  injection e with e
  injection e with e
  subst e
  rw [hnd.out.a] at d0
  rw [hnd.out.n] at d1
  have hg5 := H5.lt
  have hgp5 := World.block_lt_of_cell? w5 _ p5
  have H5 := Aside0.mk H5
  have HNE : Aside0 (w2.heap.size ≠ g ∧ some w2.heap.size ≠ (Value.slice (some ⟨ab, 0, none⟩) s.ns.length cap).ownBlock) := ⟨by omega, by have := (H2.out.row.lt ab rfl).2; simp only [Value.ownBlock, ne_eq, Option.some.injEq]; omega⟩
  have hle2 : w.heap.size ≤ w2.heap.size := by omega
  clear e2 hk1 hk2 hg2 hgp
  go_wp2
  go_quiet (fail)
  have H5 : TM (w5.drewN nq) base g (.slice (some ⟨ab, 0, none⟩) s.ns.length cap) s := H5.out.drewN nq
  have B5 : (w5.drewN nq).heap[w2.heap.size]? = some (.cells #[.int .i64 (ad p), .int .i64 p.length, .int .i64 (-1), .int .i64 (-1), .bool true, .int .i64 v] 64 (0, 0)) := B5
  have p5 : (w5.drewN nq).cell? ⟨w.heap.size, 0, none⟩ = some (.int .i64 (ad p)) := p5
  have p6 : (w5.drewN nq).cell? ⟨w.heap.size, 1, none⟩ = some (.int .i64 p.length) := p6
  have HB5 : Below w.heap.size w (w5.drewN nq) := pw_below_drewN HB5.out nq
  clear c0 c1 c2 c3 c4 d0 d1 d2 d3 d4 d5 hfz hg5 hgp5 hab
  generalize w5.drewN nq = W at H5 B5 p5 p6 HB5 ⊢
  obtain ⟨c0, c1, c2, c3, c4⟩ := H5.cs
  obtain ⟨ab', cap', e, -, hab, -, -, d0, d1, d2, d3, d4, d5, hfz⟩ := H5.node HX.out
  injection e with e _ e2
  injection e with e
  injection e with e
  subst e
  rw [hnd.out.a] at d0
  rw [hnd.out.n] at d1
  have hg5 := H5.lt
  have hgp5 := World.block_lt_of_cell? W _ p5
  have hgo := (Array.getElem?_eq_some_iff.1 B5).1
  have H5 := Aside0.mk H5
  have HB5 := Aside0.mk HB5
  clear e2
  have o0 := blk_c B5 0
  have o1 := blk_c B5 1
  have o2 := blk_c B5 2
  have o3 := blk_c B5 3
  have o4 := blk_c B5 4
  have o5 := blk_c B5 5
  simp only [List.getElem?_toArray, List.getElem?_cons_zero, List.getElem?_cons_succ] at o0 o1 o2 o3 o4 o5
  have hn1 := HNE.out.1
  have hn2 := HNE.out.2
  have hu1' : s.used ≤ 1000 := by omega
  have hUl' : t.idx.length < 1000 := by omega
  have B5 := Aside0.mk B5
  have hWg : W.heap.size ≠ g := by omega
  have hWa : W.heap.size ≠ ab := by omega
  have hwg : w.heap.size ≠ g := by omega
  have hwa : w.heap.size ≠ ab := by have := (H.out.row.lt ab rfl).2; omega
  go_wp2_with (first
    | (go_at_call 26; refine (trie_common.calls _ _ _ _ _ _ HC.out).mono ?_; rintro e w6 ⟨rfl, hb6⟩; have r0 : w6.cell? ⟨W.heap.size, 0, none⟩ = some (.int .i64 (ad q)) := pw_cell_below hb6 (by go_simp); have hBB : Below W.heap.size W w6 := below_then (by repeat (first | exact Below.refl _ _ | apply pw_below_drewN | apply below_drew1 | apply below_alloc)) (by simp) hb6; have H6 := H5.out.below hBB; have B6 : w6.heap[w2.heap.size]? = some (.cells #[.int .i64 (ad p), .int .i64 p.length, .int .i64 (-1), .int .i64 (-1), .bool true, .int .i64 v] 64 (0, 0)) := (hBB.block _ (Array.getElem?_eq_some_iff.1 B5.out).1).trans B5.out; have HB6 := Aside0.mk (below_step HB5.out hBB); have p7 : w6.cell? ⟨w.heap.size, 0, none⟩ = some (.int .i64 (ad p)) := pw_cell_below hBB p5; clear hb6 hBB o0 o1 o2 o3 o4 o5 c0 c1 c2 c3 c4 d0 d1 d2 d3 d4 d5 p5 p6 hfz; have o0 := blk_c B6 0; have o1 := blk_c B6 1; have o2 := blk_c B6 2; have o3 := blk_c B6 3; have o4 := blk_c B6 4; have o5 := blk_c B6 5; simp only [List.getElem?_toArray, List.getElem?_cons_zero, List.getElem?_cons_succ] at o0 o1 o2 o3 o4 o5; have of := blk_f B6; have B6 := Aside0.mk B6; have H6 := Aside0.mk H6)
    | (go_at_call 27; refine (node_any (base := base) (sl := .slice (some ⟨ab, 0, none⟩) s.ns.length cap) (s := s) ?hT HR.out.pool hUl' ⟨(ad p : Int), (p.length : Int), -1, -1, true, v⟩ hu0 hu1').mono ?_; (case hT => repeat (first | exact H6.out | apply TM.drewN | apply TM.alloc)); rintro e w8 ⟨sl1, rfl, T1, F1, A1⟩; have u0 := F1.cell p7 hwg (by simp only [Value.ownBlock, ne_eq, Option.some.injEq]; exact hwa); have u1 := F1.cell r0 hWg (by simp only [Value.ownBlock, ne_eq, Option.some.injEq]; exact hWa); have T1 := Aside0.mk T1; have F1 := Aside0.mk (Fr.trans (w1 := w6) (Fr.of_below HB6.out g (some ab)) F1 (.inl rfl)); have A1 := Aside0.mk (A1.elim .inl fun ⟨k, e, hk⟩ => .inr ⟨k, e, Nat.le_trans HB6.out.size hk⟩ : sl1.ownBlock = some ab ∨ ∃ k, sl1.ownBlock = some k ∧ w.heap.size ≤ k))
    | (go_at_call 30; refine (bits_Cut.calls _ _ _ _ _ HCUT.out).mono ?_; rintro e w9 ⟨rfl, hb9⟩; have z0 := pw_cell_below hb9 u0; have z1 := pw_cell_below hb9 u1; have T2 := Aside0.mk (T1.out.below hb9); have F2 := Aside0.mk (Fr.trans F1.out (Fr.of_below hb9 g (some ab)) (.inl rfl)); clear hb9 u0 u1))
  have hz0 := World.block_lt_of_cell? w9 _ z0
  have hz1 := World.block_lt_of_cell? w9 _ z1
  have HN2 : Aside0 (w9.heap.size ≠ g ∧ some w9.heap.size ≠ sl1.ownBlock) := ⟨by have := T2.out.lt; omega, fun e => by have := (T2.out.row.lt _ e.symm).2; omega⟩
  obtain ⟨i1, fl1, e1, pool1, -, -, -, -, -, eu1⟩ := HR.out.pool.add (own p v)
  have hU1 : (t.idx ++ [i1]).length < 1000 := by simp only [List.length_append, List.length_cons, List.length_nil]; omega
  have hv0 : 0 ≤ (s.add (own p v)).2.used := by omega
  have hv1 : (s.add (own p v)).2.used ≤ 1000 := by omega
  have HPL := Aside0.mk (fun i b (e : plc p t = some (i, b)) => Nat.lt_of_lt_of_le (HR.out.plcLt e) (Nat.le_trans (s.add_len (own p v)) ((s.add (own p v)).2.add_len ⟨(ad (lcp p q) : Int), ((lcp p q).length : Int), (m : Int), (s.add (own p v)).1, false, 0⟩)))
  have pool1 := Aside0.mk pool1
  clear e1 eu1
  go_region_held3 (fun w' => w'.cell? ⟨w.heap.size, 0, none⟩ = some (.int .i64 (ad p)) ∧ w'.cell? ⟨W.heap.size, 0, none⟩ = some (.int .i64 (ad q)))
    (first | go_keep | (go_split_ands; refine ⟨?_, ?_⟩ <;> (repeat (first | exact z0 | exact z1 | refine k_drewN _ ?_ | refine k_drew ?_ | refine k_alloc _ ?_ | refine k_set (Nat.ne_of_gt hz0) ?_ | refine k_set (Nat.ne_of_gt hz1) ?_))))
    (first
      | (go_at_call 29; ((with_reducible refine (bits_Bit.calls _ _ _ _ HQ.out).mono ?_); rintro e w10 ⟨rfl, ⟨n1, rfl⟩⟩))
      | (go_at_call 29; ((with_reducible refine (bits_Bit.calls _ _ _ _ HQ2.out).mono ?_); rintro e w10 ⟨rfl, ⟨n2, rfl⟩⟩)))
  go_wp2_with (first
    | (go_at_call 27; refine (node_any (base := base) (sl := sl1) (s := (s.add (own p v)).2) ?hT pool1.out hU1 ⟨(ad (lcp p q) : Int), ((lcp p q).length : Int), (m : Int), (s.add (own p v)).1, false, 0⟩ hv0 hv1).mono ?_; (case hT => repeat (first | exact T2.out | apply TM.drewN | apply TM.drew | apply TM.alloc | refine TM.far ?_ HN2.out.1 HN2.out.2)); rintro e w11 ⟨sl3, rfl, T3, F3, A3⟩; obtain ⟨bb, oo, P3⟩ := plc_any T3 HPL.out; obtain ⟨kk, pc⟩ := P3.cell; have pf := P3.free; have d0 := T3.cs.1; have T3 := Aside0.mk T3; have F3 := Aside0.mk F3; have P3 := Aside0.mk P3; have A3 := Aside0.mk A3)
    | (go_at_call 28; refine (P3.out.call _ d0).mono ?_; rintro e w12 ⟨rfl, rfl⟩))
  go_ret
  rw [HBIT.out]
  refine put_end2 P3.out T3.out F3.out A3.out ?_ A1.out
  repeat (first | exact F2.out | apply Fr.drewN | apply Fr.drew | apply Fr.alloc | refine Fr.set ?_ (.inr (.inr (Nat.le_of_lt hz0))) _)
end Go.Proofs.Ytjffikckddijmaa
namespace Go.Proofs.Ytjffikckddijmaa
open Go.RowKit Go.Proofs.YtjffikckddijmaaW.PrintWords Go.Proofs.YtjffikckddijmaaW.PrintLast Go.Proofs.YtjffikckddijmaaW.PrintMore
open All All.BM
attribute [local go_sem] max2_int min2_int max_two min_two max_three min_three max_four min_four
set_option linter.unusedVariables false
set_option linter.unusedSimpArgs false
attribute [local go_sem high] eqA31 eqA33
set_option maxHeartbeats 2000000 in
set_option maxRecDepth 100000 in
theorem cut_bad (p0 : Option Addr) (a n : Int) (h : ¬ isPre a n) (w : World) : Calls Try.prog 17 #[.pointer p0, .agg #[.int .i64 a, .int .i64 n]] w fun e w' => e = .returned (.int .i64 1) ∧ Below w.heap.size w w' := by
  have HM := Aside0.mk (may_no h)
  clear h
  go_enter Try.func17, Try.ntmps17
  go_wp2_with (first | (go_at_call 18; refine (bits_May.calls _ _ _ _ HM.out).mono ?_; rintro e w1 ⟨rfl, hb⟩))
  go_ret
  exact ⟨rfl, below_step ((Below.refl _ _).alloc (Nat.le_refl _) _) hb⟩
set_option maxHeartbeats 2000000 in
set_option maxRecDepth 100000 in
theorem cut_empty {w : World} {base g : Nat} {sl : Value} {s : St} (h : TM w base g sl s) (p : K) (hp : p.length ≤ 32) (hu : s.used = 0) : Calls Try.prog 17 #[.pointer (some ⟨g, 0, none⟩), .agg #[.int .i64 (ad p), .int .i64 p.length]] w fun e w' => e = .returned (.int .i64 5) ∧ Below w.heap.size w w' := by
  have HM := Aside0.mk (may_yes hp)
  have H := Aside0.mk h
  have hu1 : (s.used == 0) = true := by simpa using hu
  clear h hu
  go_enter Try.func17, Try.ntmps17
  go_wp2_with (first
    | (go_at_call 18; refine (bits_May.calls _ _ _ _ HM.out).mono ?_; rintro e w1 ⟨rfl, hb⟩; have hb := below_step ((Below.refl _ _).alloc (Nat.le_refl _) _) hb; have H1 := Aside0.mk (H.out.below hb))
    | (go_at_call 31; refine (empty_any H1.out).mono ?_; rintro e w2 ⟨rfl, rfl⟩))
  go_ret
  exact ⟨rfl, hb⟩
set_option maxHeartbeats 2000000 in
set_option maxRecDepth 100000 in
theorem cut_none {w : World} {base g : Nat} {sl : Value} {s : St} (h : TM w base g sl s) {t : T} {fl : List Nat} (hR : Rep0 s t fl) (p : K) (hp : p.length ≤ 32) (hu : s.used ≠ 0)
    (hs : T.sub p t = .nil) :
    Calls Try.prog 17 #[.pointer (some ⟨g, 0, none⟩), .agg #[.int .i64 (ad p), .int .i64 p.length]] w fun e w' => e = .returned (.int .i64 5) ∧ Below w.heap.size w w' := by
  have HM := Aside0.mk (may_yes hp)
  have H := Aside0.mk h
  have HR := Aside0.mk hR
  have hg := h.lt
  have hue : (s.used == 0) = false := by simpa using hu
  have hat : rootOf (T.sub p t) = -1 := by rw [hs]; rfl
  clear h hR hs hu
  have HAT := Aside0.mk hat
  clear hat
  go_enter Try.func17, Try.ntmps17
  go_wp2_with (first
    | (go_at_call 18; refine (bits_May.calls _ _ _ _ HM.out).mono ?_; rintro e w1 ⟨rfl, hb⟩; have hB1 : Below w.heap.size w w1 := below_step ((Below.refl _ _).alloc (Nat.le_refl _) _) hb; have q0 : w1.cell? ⟨w.heap.size, 0, none⟩ = some (.int .i64 (ad p)) := pw_cell_below hb (by go_simp); have q1 : w1.cell? ⟨w.heap.size, 1, none⟩ = some (.int .i64 p.length) := pw_cell_below hb (by go_simp); have H1 := Aside0.mk (H.out.below hB1); have HB1 := Aside0.mk hB1; clear hb hB1)
    | (go_at_call 31; refine (empty_any H1.out).mono ?_; rintro e w2 ⟨rfl, rfl⟩)
    | (go_at_call 25; refine (seek_p H1.out HR.out hp).mono ?_; rintro e w2 ⟨rfl, hb⟩; have p0 : w2.cell? ⟨w.heap.size, 0, none⟩ = some (.int .i64 (ad p)) := pw_cell_below hb q0; have p1 : w2.cell? ⟨w.heap.size, 1, none⟩ = some (.int .i64 p.length) := pw_cell_below hb q1; have H2 := H1.out.below hb; clear q0 q1; obtain ⟨c0, c1, c2, c3, c4⟩ := H2.cs; have H2 := Aside0.mk H2; have HB2 := Aside0.mk (below_step HB1.out hb); clear hb; rw [HAT.out]))
  have hg2 := H2.out.lt
  have hgp := World.block_lt_of_cell? w2 _ p0
  go_quiet (fail)
  go_wp2
  go_ret
  exact ⟨rfl, by repeat (first | exact HB2.out | apply pw_below_drewN)⟩
set_option maxHeartbeats 2000000 in
set_option maxRecDepth 100000 in
theorem cut_other {w : World} {base g : Nat} {sl : Value} {s : St} (h : TM w base g sl s) {t : T} {fl : List Nat} (hR : Rep0 s t fl) (p : K) (hp : p.length ≤ 32) (hu : s.used ≠ 0)
    {m : Nat} {q : K} {sv : Option Int} {l r : T} (hs : T.sub p t = .nd m q sv l r) (hne : q ≠ p) :
    Calls Try.prog 17 #[.pointer (some ⟨g, 0, none⟩), .agg #[.int .i64 (ad p), .int .i64 p.length]] w fun e w' => e = .returned (.int .i64 5) ∧ Below w.heap.size w w' := by
  have HM := Aside0.mk (may_yes hp)
  have H := Aside0.mk h
  have HR := Aside0.mk hR
  have hg := h.lt
  have hue : (s.used == 0) = false := by simpa using hu
  have hat : rootOf (T.sub p t) = (m : Int) := by rw [hs]; rfl
  obtain ⟨x, hx, hnd, -, -, hmt⟩ := hR.subNode hs
  have HX := Aside0.mk hx
  have hnd := Aside0.mk hnd
  have hq : q.length ≤ 32 := hR.short q (by
    have := T.sub_keys (p := p) (t := t) (k := q) (by rw [hs]; simp [T.keys])
    exact this)
  have hk1 := key_ne hp hq hne
  have hk2 := key_ne' hp hq hne
  clear hne
  clear h hR hs hu hmt hx
  have HAT := Aside0.mk hat
  clear hat
  go_enter Try.func17, Try.ntmps17
  go_wp2_with (first
    | (go_at_call 18; refine (bits_May.calls _ _ _ _ HM.out).mono ?_; rintro e w1 ⟨rfl, hb⟩; have hB1 : Below w.heap.size w w1 := below_step ((Below.refl _ _).alloc (Nat.le_refl _) _) hb; have q0 : w1.cell? ⟨w.heap.size, 0, none⟩ = some (.int .i64 (ad p)) := pw_cell_below hb (by go_simp); have q1 : w1.cell? ⟨w.heap.size, 1, none⟩ = some (.int .i64 p.length) := pw_cell_below hb (by go_simp); have H1 := Aside0.mk (H.out.below hB1); have HB1 := Aside0.mk hB1; clear hb hB1)
    | (go_at_call 31; refine (empty_any H1.out).mono ?_; rintro e w2 ⟨rfl, rfl⟩)
    | (go_at_call 25; refine (seek_p H1.out HR.out hp).mono ?_; rintro e w2 ⟨rfl, hb⟩; have p0 : w2.cell? ⟨w.heap.size, 0, none⟩ = some (.int .i64 (ad p)) := pw_cell_below hb q0; have p1 : w2.cell? ⟨w.heap.size, 1, none⟩ = some (.int .i64 p.length) := pw_cell_below hb q1; have H2 := H1.out.below hb; clear q0 q1; obtain ⟨c0, c1, c2, c3, c4⟩ := H2.cs; have H2 := Aside0.mk H2; have HB2 := Aside0.mk (below_step HB1.out hb); clear hb; rw [HAT.out]))
  obtain ⟨ab, cap, e, hba, hab, hag, hi, d0, d1, d2, d3, d4, d5, hfz⟩ := H2.out.node HX.out
  rw [hnd.out.a] at d0
  rw [hnd.out.n] at d1
  rw [hnd.out.b] at d4
  have hcap := H2.out.few
  subst e
  have hm2 : ((m : Int) == -1) = false := by rw [beq_eq_false_iff_ne]; omega
  have hga : g ≠ ab := fun e => hag e.symm
  have hg2 := H2.out.lt
  have hgp := World.block_lt_of_cell? w2 _ p0
  go_quiet (fail)
  go_wp2
  go_ret
  exact ⟨rfl, by repeat (first | exact HB2.out | apply pw_below_drewN)⟩
set_option maxHeartbeats 2000000 in
set_option maxRecDepth 100000 in
theorem cut_un {w : World} {base g : Nat} {sl : Value} {s : St} (h : TM w base g sl s) {t : T} {fl : List Nat} (hR : Rep0 s t fl) (p : K) (hp : p.length ≤ 32) (hu : s.used ≠ 0)
    {m : Nat} {l r : T} (hs : T.sub p t = .nd m p none l r) :
    Calls Try.prog 17 #[.pointer (some ⟨g, 0, none⟩), .agg #[.int .i64 (ad p), .int .i64 p.length]] w fun e w' => e = .returned (.int .i64 5) ∧ Below w.heap.size w w' := by
  have HM := Aside0.mk (may_yes hp)
  have H := Aside0.mk h
  have HR := Aside0.mk hR
  have hg := h.lt
  have hue : (s.used == 0) = false := by simpa using hu
  have hat : rootOf (T.sub p t) = (m : Int) := by rw [hs]; rfl
  obtain ⟨x, hx, hnd, -, -, hmt⟩ := hR.subNode hs
  have HX := Aside0.mk hx
  have hnd := Aside0.mk hnd
  clear h hR hs hu hmt hx
  have HAT := Aside0.mk hat
  clear hat
  go_enter Try.func17, Try.ntmps17
  go_wp2_with (first
    | (go_at_call 18; refine (bits_May.calls _ _ _ _ HM.out).mono ?_; rintro e w1 ⟨rfl, hb⟩; have hB1 : Below w.heap.size w w1 := below_step ((Below.refl _ _).alloc (Nat.le_refl _) _) hb; have q0 : w1.cell? ⟨w.heap.size, 0, none⟩ = some (.int .i64 (ad p)) := pw_cell_below hb (by go_simp); have q1 : w1.cell? ⟨w.heap.size, 1, none⟩ = some (.int .i64 p.length) := pw_cell_below hb (by go_simp); have H1 := Aside0.mk (H.out.below hB1); have HB1 := Aside0.mk hB1; clear hb hB1)
    | (go_at_call 31; refine (empty_any H1.out).mono ?_; rintro e w2 ⟨rfl, rfl⟩)
    | (go_at_call 25; refine (seek_p H1.out HR.out hp).mono ?_; rintro e w2 ⟨rfl, hb⟩; have p0 : w2.cell? ⟨w.heap.size, 0, none⟩ = some (.int .i64 (ad p)) := pw_cell_below hb q0; have p1 : w2.cell? ⟨w.heap.size, 1, none⟩ = some (.int .i64 p.length) := pw_cell_below hb q1; have H2 := H1.out.below hb; clear q0 q1; obtain ⟨c0, c1, c2, c3, c4⟩ := H2.cs; have H2 := Aside0.mk H2; have HB2 := Aside0.mk (below_step HB1.out hb); clear hb; rw [HAT.out]))
  obtain ⟨ab, cap, e, hba, hab, hag, hi, d0, d1, d2, d3, d4, d5, hfz⟩ := H2.out.node HX.out
  rw [hnd.out.a] at d0
  rw [hnd.out.n] at d1
  rw [hnd.out.b] at d4
  simp only [Option.isSome] at d4
  have hcap := H2.out.few
  subst e
  have hm2 : ((m : Int) == -1) = false := by rw [beq_eq_false_iff_ne]; omega
  have hga : g ≠ ab := fun e => hag e.symm
  have hg2 := H2.out.lt
  have hgp := World.block_lt_of_cell? w2 _ p0
  go_quiet (fail)
  go_wp2
  go_ret
  exact ⟨rfl, by repeat (first | exact HB2.out | apply pw_below_drewN)⟩
def CutP (w : World) (base g : Nat) (sl : Value) (t : T) (room : Int) (e : Ending) (w' : World) : Prop := ∃ s2 fl2, Did w base g sl (.int .i64 0) s2 e w' ∧ Rep0 s2 t fl2 ∧ s2.room = room
theorem heal_use {w : World} {base g : Nat} {sl : Value} {s : St} (h : TM w base g sl s) {t : T} {fl : List Nat} (hR : Rep0 s t fl) {p : K} {m : Nat} {q : K} {sv : Option Int} {l r : T} (hs : T.sub p t = .nd m q sv l r)
    (hu1 : s.used ≤ 1000) {a side : Int} (ha : parOf (plc p t) = a) (hsd : sideOf (plc p t) = side) {R : Ending → World → Prop} (hk : ∀ s' fl', Rep0 s' (T.repl p T.hl t) fl' → s'.room = s.room → ∀ e w', Did w base g sl (.tuple #[]) s' e w' → R e w') :
    Calls Try.prog 33 #[.pointer (some ⟨g, 0, none⟩), .int .i64 a, .int .i64 side, .int .i64 m] w R := by
  subst ha
  subst hsd
  obtain ⟨s', fl', h1, h2, h3⟩ := heal_any h hR hs hu1 (plc_any h fun i b e => hR.plcLt e)
  exact h3.mono (hk s' fl' h1 h2)
theorem Did.trans {w w1 w2 : World} {base g : Nat} {sl sl1 : Value} {v : Value} {s2 : St} {e : Ending} (F : Fr w w1 g sl.ownBlock) (A : sl1.ownBlock = sl.ownBlock ∨ ∃ k, sl1.ownBlock = some k ∧ w.heap.size ≤ k) (D : Did w1 base g sl1 v s2 e w2) : Did w base g sl v s2 e w2 := by
  obtain ⟨sl3, rfl, T3, F3, A3⟩ := D
  exact ⟨sl3, rfl, T3, F.trans F3 A, A3.elim (fun e => A.elim (fun e1 => .inl (e.trans e1)) (fun ⟨k, e1, hk⟩ => .inr ⟨k, e.trans e1, hk⟩)) fun ⟨k, e, hk⟩ => .inr ⟨k, e, Nat.le_trans F.size hk⟩⟩
set_option maxHeartbeats 2000000 in
set_option maxRecDepth 100000 in
theorem cut_go {w : World} {base g : Nat} {sl : Value} {s : St} (h : TM w base g sl s) {t : T} {fl : List Nat} (hR : Rep0 s t fl) (p : K) (hp : p.length ≤ 32) (hu : s.used ≠ 0)
    {m : Nat} {v : Int} {l r : T} (hs : T.sub p t = .nd m p (some v) l r) (hw : t.WF) (hu1 : s.used ≤ 1000) :
    Calls Try.prog 17 #[.pointer (some ⟨g, 0, none⟩), .agg #[.int .i64 (ad p), .int .i64 p.length]] w (CutP w base g sl (T.del p t) s.room) := by
  have HM := Aside0.mk (may_yes hp)
  have H := Aside0.mk h
  have HR := Aside0.mk hR
  have hg := h.lt
  have hue : (s.used == 0) = false := by simpa using hu
  have hat : rootOf (T.sub p t) = (m : Int) := by rw [hs]; rfl
  obtain ⟨x, hx, hnd, -, -, hmt⟩ := hR.subNode hs
  have R0 : Rep0 { s with ns := s.ns.set m { x with b := false } } (T.repl p (fun _ => .nd m p none l r) t) fl := hR.mark (y := { x with b := false }) hx ⟨hnd.a, hnd.n, rfl, fun u hu => by cases hu⟩ rfl rfl hs
  obtain ⟨sr1, sr2, -⟩ := sub_repl (s' := none) (l' := l) (r' := r) hs
  have HTREE := Aside0.mk (cut_tree hw hs)
  have R0 := Aside0.mk R0
  have SR1 := Aside0.mk sr1
  have HX := Aside0.mk hx
  have hnd := Aside0.mk hnd
  have hu1' : ({ s with ns := s.ns.set m { x with b := false } } : St).used ≤ 1000 := hu1
  cases hpl : plc p t with
  | none =>
    have SR2 := Aside0.mk (sr2.trans hpl)
    have SR2a : Aside0 (parOf (plc p (T.repl p (fun _ => .nd m p none l r) t)) = -1) := ⟨by rw [SR2.out]; rfl⟩
    have SR2b : Aside0 (sideOf (plc p (T.repl p (fun _ => .nd m p none l r) t)) = 0) := ⟨by rw [SR2.out]; rfl⟩
    have HPAR : Aside0 (parOf (plc p t) = -1) := ⟨by rw [hpl]; rfl⟩
    have HSIDE : Aside0 (sideOf (plc p t) = 0) := ⟨by rw [hpl]; rfl⟩
    have HPL := Aside0.mk hpl
    clear h hR hs hu hmt hx hw sr1 sr2 hpl
    have HAT := Aside0.mk hat
    clear hat
    have HF1 : Aside0 True := ⟨trivial⟩
    go_enter Try.func17, Try.ntmps17
    go_wp2_with (first
      | (go_at_call 18; refine (bits_May.calls _ _ _ _ HM.out).mono ?_; rintro e w1 ⟨rfl, hb⟩; have hB1 : Below w.heap.size w w1 := below_step ((Below.refl _ _).alloc (Nat.le_refl _) _) hb; have q0 : w1.cell? ⟨w.heap.size, 0, none⟩ = some (.int .i64 (ad p)) := pw_cell_below hb (by go_simp); have q1 : w1.cell? ⟨w.heap.size, 1, none⟩ = some (.int .i64 p.length) := pw_cell_below hb (by go_simp); have H1 := Aside0.mk (H.out.below hB1); have HB1 := Aside0.mk hB1; clear hb hB1)
      | (go_at_call 31; refine (empty_any H1.out).mono ?_; rintro e w2 ⟨rfl, rfl⟩)
      | (go_at_call 25; refine (seek_p H1.out HR.out hp).mono ?_; rintro e w2 ⟨rfl, hb⟩; have p0 : w2.cell? ⟨w.heap.size, 0, none⟩ = some (.int .i64 (ad p)) := pw_cell_below hb q0; have p1 : w2.cell? ⟨w.heap.size, 1, none⟩ = some (.int .i64 p.length) := pw_cell_below hb q1; have H2 := H1.out.below hb; clear q0 q1; obtain ⟨c0, c1, c2, c3, c4⟩ := H2.cs; have H2 := Aside0.mk H2; have HB2 := Aside0.mk (below_step HB1.out hb); clear hb; rw [HAT.out, HPAR.out, HSIDE.out]))
    obtain ⟨ab, cap, e, hba, hab, hag, hi, d0, d1, d2, d3, d4, d5, hfz⟩ := H2.out.node HX.out
    rw [hnd.out.a] at d0
    rw [hnd.out.n] at d1
    rw [hnd.out.b] at d4
    simp only [Option.isSome] at d4
    have hcap := H2.out.few
    subst e
    have hm2 : ((m : Int) == -1) = false := by rw [beq_eq_false_iff_ne]; omega
    have hga : g ≠ ab := fun e => hag e.symm
    have hg2 := H2.out.lt
    have hgp := World.block_lt_of_cell? w2 _ p0
    go_quiet (fail)
    have F2 : Fr w w2 g (some ab) := Fr.of_below HB2.out g (some ab)
    have F2 := Aside0.mk F2
    have T2 : ∀ n, TM ((w2.drewN n).setCell ⟨ab, m * 6 + 4, none⟩ (.bool false)) base g (.slice (some ⟨ab, 0, none⟩) s.ns.length cap) { s with ns := s.ns.set m { x with b := false } } := fun n => (H2.out.drewN n).setNode (j := 4) HX.out (by omega) rfl
    have T2 := Aside0.mk T2
    go_wp2_with (first
      | (have hf1_ := HF1; go_at_call 33; refine heal_use (base := base) (sl := .slice (some ⟨ab, 0, none⟩) s.ns.length cap) (s := { s with ns := s.ns.set m { x with b := false } }) (a := -1) (side := 0) ?hT R0.out SR1.out hu1' SR2a.out SR2b.out ?_; (case hT => first | exact T2.out _ | exact (T2.out 0)); clear HF1 hf1_; intro s1 fl1 R1 er1; rintro e w3 ⟨sl1, rfl, T1, F1, A1⟩; have T1 := Aside0.mk T1; have F1 := Aside0.mk F1; have A1 := Aside0.mk A1; have R1 := Aside0.mk R1; have er1 := Aside0.mk er1))
    go_ret
    have F2' : Fr w ((w2.drewN nq).setCell ⟨ab, m * 6 + 4, none⟩ (.bool false)) g (some ab) := (F2.out.drewN nq).set (.inr (.inl rfl)) _
    exact ⟨s1, fl1, Did.trans (sl1 := .slice (some ⟨ab, 0, none⟩) s.ns.length cap) F2' (.inl rfl) ⟨sl1, rfl, T1.out, F1.out, A1.out⟩, by rw [HTREE.out.1 HPL.out]; exact R1.out, er1.out⟩
  | some y =>
    obtain ⟨i, b⟩ := y
    have SR2 := Aside0.mk (sr2.trans hpl)
    have SR2a : Aside0 (parOf (plc p (T.repl p (fun _ => .nd m p none l r) t)) = (i : Int)) := ⟨by rw [SR2.out]; rfl⟩
    have SR2b : Aside0 (sideOf (plc p (T.repl p (fun _ => .nd m p none l r) t)) = bi b) := ⟨by rw [SR2.out]; rfl⟩
    have HPAR : Aside0 (parOf (plc p t) = (i : Int)) := ⟨by rw [hpl]; rfl⟩
    have HSIDE : Aside0 (sideOf (plc p t) = bi b) := ⟨by rw [hpl]; rfl⟩
    obtain ⟨k, ek, efn⟩ := par_sub hw hpl
    have HK : ∃ s' l' r', T.sub k (T.repl p T.hl (T.repl p (fun _ => .nd m p none l r) t)) = .nd i k s' l' r' := by rw [(sub_repl hs).2.2]; exact efn _
    obtain ⟨ks, kl, kr, HK⟩ := HK
    have HK := Aside0.mk HK
    have EK := Aside0.mk ek
    have hi1' : ((i : Int) != -1) = true := by rw [bne_iff_ne]; omega
    clear ek efn
    have HPL := Aside0.mk hpl
    clear h hR hs hu hmt hx hw sr1 sr2 hpl
    have HAT := Aside0.mk hat
    clear hat
    have HF1 : Aside0 True := ⟨trivial⟩
    go_enter Try.func17, Try.ntmps17
    go_wp2_with (first
      | (go_at_call 18; refine (bits_May.calls _ _ _ _ HM.out).mono ?_; rintro e w1 ⟨rfl, hb⟩; have hB1 : Below w.heap.size w w1 := below_step ((Below.refl _ _).alloc (Nat.le_refl _) _) hb; have q0 : w1.cell? ⟨w.heap.size, 0, none⟩ = some (.int .i64 (ad p)) := pw_cell_below hb (by go_simp); have q1 : w1.cell? ⟨w.heap.size, 1, none⟩ = some (.int .i64 p.length) := pw_cell_below hb (by go_simp); have H1 := Aside0.mk (H.out.below hB1); have HB1 := Aside0.mk hB1; clear hb hB1)
      | (go_at_call 31; refine (empty_any H1.out).mono ?_; rintro e w2 ⟨rfl, rfl⟩)
      | (go_at_call 25; refine (seek_p H1.out HR.out hp).mono ?_; rintro e w2 ⟨rfl, hb⟩; have p0 : w2.cell? ⟨w.heap.size, 0, none⟩ = some (.int .i64 (ad p)) := pw_cell_below hb q0; have p1 : w2.cell? ⟨w.heap.size, 1, none⟩ = some (.int .i64 p.length) := pw_cell_below hb q1; have H2 := H1.out.below hb; clear q0 q1; obtain ⟨c0, c1, c2, c3, c4⟩ := H2.cs; have H2 := Aside0.mk H2; have HB2 := Aside0.mk (below_step HB1.out hb); clear hb; rw [HAT.out, HPAR.out, HSIDE.out]))
    obtain ⟨ab, cap, e, hba, hab, hag, hi, d0, d1, d2, d3, d4, d5, hfz⟩ := H2.out.node HX.out
    rw [hnd.out.a] at d0
    rw [hnd.out.n] at d1
    rw [hnd.out.b] at d4
    simp only [Option.isSome] at d4
    have hcap := H2.out.few
    subst e
    have hm2 : ((m : Int) == -1) = false := by rw [beq_eq_false_iff_ne]; omega
    have hga : g ≠ ab := fun e => hag e.symm
    have hg2 := H2.out.lt
    have hgp := World.block_lt_of_cell? w2 _ p0
    go_quiet (fail)
    have F2 : Fr w w2 g (some ab) := Fr.of_below HB2.out g (some ab)
    have F2 := Aside0.mk F2
    have T2 : ∀ n, TM ((w2.drewN n).setCell ⟨ab, m * 6 + 4, none⟩ (.bool false)) base g (.slice (some ⟨ab, 0, none⟩) s.ns.length cap) { s with ns := s.ns.set m { x with b := false } } := fun n => (H2.out.drewN n).setNode (j := 4) HX.out (by omega) rfl
    have T2 := Aside0.mk T2
    go_wp2_with (first
      | (have hf1_ := HF1; go_at_call 33; refine heal_use (base := base) (sl := .slice (some ⟨ab, 0, none⟩) s.ns.length cap) (s := { s with ns := s.ns.set m { x with b := false } }) (a := (i : Int)) (side := bi b) ?hT R0.out SR1.out hu1' SR2a.out SR2b.out ?_; (case hT => first | exact T2.out _ | exact (T2.out 0)); clear HF1 hf1_; intro s1 fl1 R1 er1; rintro e w3 ⟨sl1, rfl, T1, F1, A1⟩; obtain ⟨y, hy, hyn, -, -, -⟩ := R1.subNode HK.out; have hkl : k.length ≤ 32 := R1.short k (T.sub_keys (p := k) (by rw [HK.out]; simp [T.keys])); have hus1 : s1.used ≤ 1000 := (by have h1 := R1.used; have h2 := R1.pool.len; have h3 := T1.few; rw [T.size_idx] at h2; omega); obtain ⟨ab1, cap1, e1, -, hab1, hag1, hi1, y0, y1, -, -, -, -, -⟩ := T1.node hy; rw [hyn.a] at y0; rw [hyn.n] at y1; have hcap1 := T1.few; have k0 := T1.cs.1; rw [e1] at k0; clear e1 hy hyn; have T1 := Aside0.mk T1; have F1 := Aside0.mk F1; have A1 := Aside0.mk A1; have R1 := Aside0.mk R1; have er1 := Aside0.mk er1)
      | (go_at_call 25; refine (seek_p T1.out R1.out hkl).mono ?_; rintro e w4 ⟨rfl, hb4⟩; have T4 := Aside0.mk (T1.out.below hb4); have F4 := Aside0.mk (Fr.of_below hb4 g sl1.ownBlock); clear hb4)
      | (go_at_call 33; refine heal_use (base := base) (sl := sl1) (s := s1) T4.out R1.out HK.out hus1 rfl rfl ?_; intro s2 fl2 R2 er2; rintro e w5 ⟨sl2, rfl, T5, F5, A5⟩; have T5 := Aside0.mk T5; have F5 := Aside0.mk F5; have A5 := Aside0.mk A5; have R2 := Aside0.mk R2; have er2 := Aside0.mk er2))
    go_ret
    have F2' : Fr w ((w2.drewN nq).setCell ⟨ab, m * 6 + 4, none⟩ (.bool false)) g (some ab) := (F2.out.drewN nq).set (.inr (.inl rfl)) _
    have D1 : Did w3 base g sl1 (.int .i64 0) s2 (.returned (.int .i64 0)) w5 := ⟨sl2, rfl, T5.out, Fr.trans F4.out F5.out (.inl rfl), A5.out.elim .inl fun ⟨k, e, hk⟩ => .inr ⟨k, e, Nat.le_trans F4.out.size hk⟩⟩
    refine ⟨s2, fl2, Did.trans (Fr.trans F2' F1.out (.inl rfl)) ?_ D1, by rw [HTREE.out.2 k EK.out]; exact R2.out, er2.out.trans er1.out⟩
    exact A1.out.elim .inl fun ⟨k, e, hk⟩ => .inr ⟨k, e, Nat.le_trans F2'.size hk⟩
end Go.Proofs.Ytjffikckddijmaa
