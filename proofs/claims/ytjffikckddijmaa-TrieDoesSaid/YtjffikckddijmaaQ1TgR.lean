/-
  Chapter 7: heal: a node that is told of no more goes, if it has not two kids.
-/
import Derived.Test.YtjffikckddijmaaQ1TgN
import Derived.Test.YtjffikckddijmaaQ1TgD
namespace Go.Proofs.Ytjffikckddijmaa
open Go.RowKit Go.Proofs.YtjffikckddijmaaW.PrintWords Go.Proofs.YtjffikckddijmaaW.PrintLast Go.Proofs.YtjffikckddijmaaW.PrintMore
attribute [local go_sem] max2_int min2_int max_two min_two max_three min_three max_four min_four
set_option linter.unusedVariables false
set_option linter.unusedSimpArgs false
def Nd.kid (x : Nd) (b : Bool) (v : Int) : Nd := if b then { x with k1 := v } else { x with k0 := v }
def St.put (s : St) : Option (Nat × Bool) → Int → St
  | none, v => { s with root := v }
  | some (i, b), v => { s with ns := s.ns.set i ((s.ns.getD i Nd.zero).kid b v) }
def parOf : Option (Nat × Bool) → Int
  | none => -1
  | some (i, _) => (i : Int)
structure Plc (w : World) (base g : Nat) (sl : Value) (s : St) (pl : Option (Nat × Bool)) (side : Int) (b o : Nat) : Prop where
  call : ∀ W : World, W.cell? ⟨g, 0, none⟩ = some sl → Calls Try.prog 28 #[.pointer (some ⟨g, 0, none⟩), .int .i64 (parOf pl), .int .i64 side] W fun e w' => e = .returned (.pointer (some ⟨b, o, none⟩)) ∧ W = w'
  cell : ∃ k : Int, w.cell? ⟨b, o, none⟩ = some (.int .i64 k)
  free : w.frozen? ⟨b, o, none⟩ = false
  ne : ¬ (b = g ∧ o = 0)
  set : ∀ (W : World) (v : Int), TM W base g sl s → TM (W.setCell ⟨b, o, none⟩ (.int .i64 v)) base g sl (s.put pl v)
  fr : b = g ∨ some b = sl.ownBlock
theorem place_kid' {w : World} {g ab i len cap : Nat} (hc : w.cell? ⟨g, 0, none⟩ = some (.slice (some ⟨ab, 0, none⟩) len cap)) (hi : i < len) (hl : len ≤ 1000) (side : Bool) :
    Calls Try.prog 28 #[.pointer (some ⟨g, 0, none⟩), .int .i64 (i : Int), .int .i64 (bi side)] w fun e w' => e = .returned (.pointer (some ⟨ab, i * 6 + (if side then 3 else 2), none⟩)) ∧ w = w' := by
  cases side
  all_goals
    simp only [bi]
    go_enter Try.func28, Try.ntmps28
    go_wp2
    go_ret
    exact ⟨rfl, rfl⟩
theorem plc_root {w : World} {base g : Nat} {sl : Value} {s : St} (h : TM w base g sl s) (side : Int) : Plc w base g sl s none side g 1 :=
  ⟨fun W _ => (place_root side).mono fun e w' h => ⟨h.1, h.2.symm⟩, ⟨_, h.cs.2.1⟩, blk_f h.blk 1, by omega, fun W v H => H.setStruct _ rfl rfl, .inl rfl⟩
theorem plc_kid {w : World} {base g : Nat} {sl : Value} {s : St} (h : TM w base g sl s) {i : Nat} (hi : i < s.ns.length) (b : Bool) : ∃ ab cap, sl = .slice (some ⟨ab, 0, none⟩) s.ns.length cap ∧ Plc w base g sl s (some (i, b)) (bi b) ab (i * 6 + (if b then 3 else 2)) := by
  have hx := List.getElem?_eq_getElem hi
  obtain ⟨ab, cap, e, hba, hab, hag, _, d0, d1, d2, d3, d4, d5, hfz⟩ := h.node hx
  have hg : s.ns.getD i Nd.zero = s.ns[i] := by rw [List.getD_eq_getElem?_getD, hx]; rfl
  refine ⟨ab, cap, e, fun W hc => ?_, ?_, hfz _, fun e2 => hag e2.1, fun W v H => ?_, .inr (by rw [e]; rfl)⟩
  · rw [e] at hc
    exact place_kid' hc hi h.few b
  · cases b
    · exact ⟨_, d2⟩
    · exact ⟨_, d3⟩
  · subst e
    have e3 : s.put (some (i, b)) v = { s with ns := s.ns.set i (s.ns[i].kid b v) } := by
      show ({ s with ns := s.ns.set i ((s.ns.getD i Nd.zero).kid b v) } : St) = _
      rw [hg]
    rw [e3]
    cases b
    · exact H.setNode (j := 2) hx (by omega) rfl
    · exact H.setNode (j := 3) hx (by omega) rfl
set_option maxHeartbeats 2000000 in
set_option maxRecDepth 100000 in
theorem heal_stay {w : World} {base g : Nat} {sl : Value} {s : St} (h : TM w base g sl s) {f : Nat} {x : Nd} (hx : s.ns[f]? = some x) (hs : x.b = true ∨ (x.b = false ∧ (x.k0 != -1) = true ∧ (x.k1 != -1) = true)) (par side : Int) :
    Calls Try.prog 33 #[.pointer (some ⟨g, 0, none⟩), .int .i64 par, .int .i64 side, .int .i64 f] w (Did w base g sl (.tuple #[]) s) := by
  obtain ⟨c0, c1, c2, c3, c4⟩ := h.cs
  obtain ⟨ab, cap, e, hba, hab, hag, hi, d0, d1, d2, d3, d4, d5, hfz⟩ := h.node hx
  have hcap := h.few
  subst e
  have H := Aside0.mk h
  clear h hx
  rcases hs with hs | ⟨hs, h0, h1⟩
  all_goals
    rw [hs] at d4
    clear hs
    go_enter Try.func33, Try.ntmps33
    go_wp2
    go_end0
    exact ⟨_, rfl, H.out.alloc _, (Fr.refl _ _ _).alloc _, .inl rfl⟩
theorem put_len (s : St) (pl : Option (Nat × Bool)) (v : Int) : (s.put pl v).ns.length = s.ns.length := by
  rcases pl with _ | ⟨i, b⟩
  · rfl
  · show (s.ns.set i _).length = _
    simp
theorem put_used (s : St) (pl : Option (Nat × Bool)) (v : Int) : (s.put pl v).used = s.used := by
  rcases pl with _ | ⟨i, b⟩ <;> rfl
theorem heal_end {w w5 : World} {base g : Nat} {sl sl' : Value} {s s' : St} {pl : Option (Nat × Bool)} {side : Int} {b o : Nat} (P : Plc w base g sl s pl side b o) {u : Value} {ob : Obj}
    (hT : TM w5 base g sl' s') (hF : Fr ((w.setCell ⟨b, o, none⟩ u).alloc ob).drew w5 g sl.ownBlock) (hA : sl'.ownBlock = sl.ownBlock ∨ ∃ k, sl'.ownBlock = some k ∧ ((w.setCell ⟨b, o, none⟩ u).alloc ob).drew.heap.size ≤ k) :
    Did w base g sl (.tuple #[]) s' (.returned (.tuple #[])) w5 := by
  have hfr : b = g ∨ some b = sl.ownBlock ∨ w.heap.size ≤ b := P.fr.elim .inl fun h => .inr (.inl h)
  refine ⟨sl', rfl, hT, Fr.trans ((((Fr.refl w g sl.ownBlock).set (p := ⟨b, o, none⟩) hfr u).alloc ob).drew) hF (.inl rfl), hA.elim .inl fun ⟨k, e, hk⟩ => .inr ⟨k, e, ?_⟩⟩
  simp at hk
  omega
set_option maxHeartbeats 2000000 in
set_option maxRecDepth 100000 in
theorem heal_go {w : World} {base g : Nat} {sl : Value} {s : St} (h : TM w base g sl s) {f : Nat} {x : Nd} (hx : s.ns[f]? = some x) (hb : x.b = false) {k : Int} (hk : (x.k0 ≠ -1 ∧ x.k1 = -1 ∧ k = x.k0) ∨ (x.k0 = -1 ∧ k = x.k1))
    {pl : Option (Nat × Bool)} {side : Int} {b o : Nat} (P : Plc w base g sl s pl side b o) (hu0 : 0 ≤ s.used) (hu1 : s.used ≤ 1000) :
    Calls Try.prog 33 #[.pointer (some ⟨g, 0, none⟩), .int .i64 (parOf pl), .int .i64 side, .int .i64 f] w (Did w base g sl (.tuple #[]) ((s.put pl k).drop f)) := by
  obtain ⟨c0, c1, c2, c3, c4⟩ := h.cs
  obtain ⟨ab, cap, e, hba, hab, hag, hi, d0, d1, d2, d3, d4, d5, hfz⟩ := h.node hx
  have hcap := h.few
  have hgl := h.lt
  rw [hb] at d4
  obtain ⟨kk, pc⟩ := P.cell
  have pf := P.free
  have hbl := World.block_lt_of_cell? w _ pc
  have hne := P.ne
  have hy := List.getElem?_eq_getElem (l := (s.put pl k).ns) (i := f) (by rw [put_len]; exact hi)
  have H := Aside0.mk h
  have HX := Aside0.mk hx
  have HP := Aside0.mk P
  have HY := Aside0.mk hy
  have HU0 : 0 ≤ (s.put pl k).used := by rw [put_used]; exact hu0
  have HU1 : (s.put pl k).used ≤ 1000 := by rw [put_used]; exact hu1
  clear h hx P hb hy
  have c0' := c0
  rw [e] at c0
  rcases hk with ⟨h0, h1, rfl⟩ | ⟨h0, rfl⟩
  · have h0' : (x.k0 != -1) = true := by simpa using h0
    rw [h1] at d3
    clear h0 h1
    have HE := Aside0.mk e
    clear e c0'
    go_enter Try.func33, Try.ntmps33
    go_wp2
    have K0 : (((w.setCell ⟨b, o, none⟩ (.int .i64 x.k0)).alloc (.cells #[.int .i64 x.a, .int .i64 x.n, .int .i64 x.k0, .int .i64 (-1), .bool false, .int .i64 x.v] 64)).drew).cell? ⟨g, 0, none⟩ = some (.slice (some ⟨ab, 0, none⟩) s.ns.length cap) := by
      refine pw_cell_below (w := w.setCell ⟨b, o, none⟩ (.int .i64 x.k0)) ((Below.refl _ _).alloc (Nat.le_refl _) _).drew ((World.cell?_setCell_other (w := w) _ _ _ ?_).trans c0)
      intro e; cases e; exact hne ⟨rfl, rfl⟩
    have K1 : (((w.setCell ⟨b, o, none⟩ (.int .i64 x.k0)).alloc (.cells #[.int .i64 x.a, .int .i64 x.n, .int .i64 x.k0, .int .i64 (-1), .bool false, .int .i64 x.v] 64)).drew).cell? ⟨w.heap.size, 2, none⟩ = some (.int .i64 x.k0) := by
      have := blk_c (heap_alloc_new (w.setCell ⟨b, o, none⟩ (.int .i64 x.k0)) (.cells #[.int .i64 x.a, .int .i64 x.n, .int .i64 x.k0, .int .i64 (-1), .bool false, .int .i64 x.v] 64)) 2
      simpa using this
    have K0 := Aside0.mk K0
    have K1 := Aside0.mk K1
    go_region_held3 (fun w' => w'.cell? ⟨g, 0, none⟩ = some (.slice (some ⟨ab, 0, none⟩) s.ns.length cap) ∧ w'.cell? ⟨w.heap.size, 2, none⟩ = some (.int .i64 x.k0))
      (first | go_keep | exact ⟨K0.out, K1.out⟩)
      (first | (go_at_call 28; refine (HP.out.call _ ?_).mono ?_; (rw [HE.out]; first | (go_simp; done) | go_keep); rintro e w' ⟨rfl, rfl⟩))
    go_wp2_with (first | (go_at_call 46; refine (drop_any (((HP.out.set _ x.k0 H.out).alloc _).drew) HY.out HU0 HU1).mono ?_; rintro e w5 ⟨sl', rfl, hT, hF, hA⟩))
    go_end0
    exact heal_end HP.out hT hF hA
  · rw [h0] at d2
    clear h0
    have HE := Aside0.mk e
    clear e c0'
    go_enter Try.func33, Try.ntmps33
    go_wp2
    have K0 : (((w.setCell ⟨b, o, none⟩ (.int .i64 x.k1)).alloc (.cells #[.int .i64 x.a, .int .i64 x.n, .int .i64 (-1), .int .i64 x.k1, .bool false, .int .i64 x.v] 64)).drew).cell? ⟨g, 0, none⟩ = some (.slice (some ⟨ab, 0, none⟩) s.ns.length cap) := by
      refine pw_cell_below (w := w.setCell ⟨b, o, none⟩ (.int .i64 x.k1)) ((Below.refl _ _).alloc (Nat.le_refl _) _).drew ((World.cell?_setCell_other (w := w) _ _ _ ?_).trans c0)
      intro e; cases e; exact hne ⟨rfl, rfl⟩
    have K1 : (((w.setCell ⟨b, o, none⟩ (.int .i64 x.k1)).alloc (.cells #[.int .i64 x.a, .int .i64 x.n, .int .i64 (-1), .int .i64 x.k1, .bool false, .int .i64 x.v] 64)).drew).cell? ⟨w.heap.size, 3, none⟩ = some (.int .i64 x.k1) := by
      have := blk_c (heap_alloc_new (w.setCell ⟨b, o, none⟩ (.int .i64 x.k1)) (.cells #[.int .i64 x.a, .int .i64 x.n, .int .i64 (-1), .int .i64 x.k1, .bool false, .int .i64 x.v] 64)) 3
      simpa using this
    have K0 := Aside0.mk K0
    have K1 := Aside0.mk K1
    go_region_held3 (fun w' => w'.cell? ⟨g, 0, none⟩ = some (.slice (some ⟨ab, 0, none⟩) s.ns.length cap) ∧ w'.cell? ⟨w.heap.size, 3, none⟩ = some (.int .i64 x.k1))
      (first | go_keep | exact ⟨K0.out, K1.out⟩)
      (first | (go_at_call 28; refine (HP.out.call _ ?_).mono ?_; (rw [HE.out]; first | (go_simp; done) | go_keep); rintro e w' ⟨rfl, rfl⟩))
    go_wp2_with (first | (go_at_call 46; refine (drop_any (((HP.out.set _ x.k1 H.out).alloc _).drew) HY.out HU0 HU1).mono ?_; rintro e w5 ⟨sl', rfl, hT, hF, hA⟩))
    go_end0
    exact heal_end HP.out hT hF hA
end Go.Proofs.Ytjffikckddijmaa
namespace Go.Proofs.Ytjffikckddijmaa
set_option linter.unusedVariables false
set_option linter.unusedSimpArgs false
def plc (p : K) : T → Option (Nat × Bool)
  | .nil => none
  | .nd i q s l r => if stop q p then none else (plc p (if bitOf p q.length then r else l)).or (some (i, bitOf p q.length))
  termination_by t => t.size
  decreasing_by simp only [T.size]; split <;> omega
def sideOf : Option (Nat × Bool) → Int
  | none => 0
  | some (_, b) => bi b
theorem sub_step {p q : K} {i : Nat} {s : Option Int} {l r : T} (h : stop q p = false) : T.sub p (.nd i q s l r) = T.sub p (if bitOf p q.length then r else l) := by
  rw [T.sub, if_neg (by rw [h]; simp)]
  cases bitOf p q.length <;> rfl
theorem plc_step {p q : K} {i : Nat} {s : Option Int} {l r : T} (h : stop q p = false) : plc p (.nd i q s l r) = (plc p (if bitOf p q.length then r else l)).or (some (i, bitOf p q.length)) := by
  rw [plc, if_neg (by rw [h]; simp)]
theorem plc_stop {p q : K} {i : Nat} {s : Option Int} {l r : T} (h : stop q p = true) : plc p (.nd i q s l r) = none := by rw [plc, if_pos h]
theorem sub_stop {p q : K} {i : Nat} {s : Option Int} {l r : T} (h : stop q p = true) : T.sub p (.nd i q s l r) = .nd i q s l r := by rw [T.sub, if_pos h]
theorem repl_stop {p q : K} {f : T → T} {i : Nat} {s : Option Int} {l r : T} (h : stop q p = true) : T.repl p f (.nd i q s l r) = f (.nd i q s l r) := by rw [T.repl, if_pos h]
theorem repl_step {p q : K} {f : T → T} {i : Nat} {s : Option Int} {l r : T} (h : stop q p = false) : T.repl p f (.nd i q s l r) = if bitOf p q.length then .nd i q s l (T.repl p f r) else .nd i q s (T.repl p f l) r := by
  rw [T.repl, if_neg (by rw [h]; simp)]
theorem seek_plc {p : K} : ∀ (t : T) (par side : Int), seekT p t par side = (match plc p t with | none => par | some (i, _) => (i : Int), match plc p t with | none => side | some (_, b) => bi b, rootOf (T.sub p t))
  | .nil, par, side => by simp [seekT, plc, T.sub, rootOf]
  | .nd i q s l r, par, side => by
    cases h : stop q p
    · rw [seekT, if_neg (by rw [h]; simp), plc_step h, sub_step h]
      cases hb : bitOf p q.length
      · simp only [Bool.false_eq_true, ↓reduceIte]
        rw [seek_plc l]
        cases plc p l with
        | none => rfl
        | some y => rfl
      · simp only [↓reduceIte]
        rw [seek_plc r]
        cases plc p r with
        | none => rfl
        | some y => rfl
    · rw [seekT, if_pos h, plc_stop h, sub_stop h]
      rfl
theorem seek_top (p : K) (t : T) : seekT p t (-1) 0 = (parOf (plc p t), sideOf (plc p t), rootOf (T.sub p t)) := by
  rw [seek_plc]
  cases plc p t with
  | none => rfl
  | some y => rfl
theorem plc_none {p : K} : ∀ {t : T}, plc p t = none → T.sub p t = t ∧ ∀ f, T.repl p f t = f t
  | .nil, _ => ⟨rfl, fun _ => rfl⟩
  | .nd i q s l r, h => by
    cases hs : stop q p
    · rw [plc_step hs] at h
      cases hh : plc p (if bitOf p q.length = true then r else l) <;> rw [hh] at h <;> cases h
    · exact ⟨sub_stop hs, fun f => repl_stop hs⟩
theorem sub_idx {p : K} : ∀ {t : T} {k : Nat}, k ∈ (T.sub p t).idx → k ∈ t.idx
  | .nil, _, h => h
  | .nd i q s l r, k, h => by
    cases hs : stop q p
    · rw [sub_step hs] at h
      simp only [T.idx, List.mem_cons, List.mem_append]
      cases hb : bitOf p q.length <;> rw [hb] at h
      · exact .inr (.inl (sub_idx h))
      · exact .inr (.inr (sub_idx h))
    · rw [sub_stop hs] at h; exact h
theorem plc_mem {p : K} : ∀ {t : T} {i : Nat} {b : Bool}, t.idx.Nodup → plc p t = some (i, b) → i ∈ t.idx ∧ i ∉ (T.sub p t).idx
  | .nil, _, _, _, h => by simp [plc] at h
  | .nd m q s l r, i, b, hn, h => by
    simp only [T.idx, List.nodup_cons, List.mem_append, not_or, List.nodup_append] at hn
    obtain ⟨⟨h1, h2⟩, h3, h4, h5⟩ := hn
    cases hs : stop q p
    · rw [plc_step hs] at h
      rw [sub_step hs]
      simp only [T.idx, List.mem_cons, List.mem_append]
      cases hb : bitOf p q.length <;> simp only [hb, Bool.false_eq_true, ↓reduceIte] at h ⊢
      · cases hh : plc p l with
        | none => rw [hh] at h; cases h; exact ⟨.inl rfl, fun hm => h1 (sub_idx hm)⟩
        | some y =>
          rw [hh] at h; cases h
          have := plc_mem h3 hh
          exact ⟨.inr (.inl this.1), this.2⟩
      · cases hh : plc p r with
        | none => rw [hh] at h; cases h; exact ⟨.inl rfl, fun hm => h2 (sub_idx hm)⟩
        | some y =>
          rw [hh] at h; cases h
          have := plc_mem h4 hh
          exact ⟨.inr (.inr this.1), this.2⟩
    · rw [plc_stop hs] at h; cases h
theorem Holds.congr {ns ns' : List Nd} : ∀ {t : T} {at_ : Int}, Holds ns at_ t → (∀ k ∈ t.idx, ns'[k]? = ns[k]?) → Holds ns' at_ t
  | .nil, _, h, _ => h
  | .nd i q s l r, _, ⟨h1, x, h2, h3, h4, h5⟩, hc => ⟨h1, x, (hc i (by simp [T.idx])).trans h2, h3, h4.congr (fun k hk => hc k (by simp [T.idx, hk])), h5.congr (fun k hk => hc k (by simp [T.idx, hk]))⟩
theorem Holds.get {ns : List Nd} : ∀ {t : T} {at_ : Int}, Holds ns at_ t → ∀ k ∈ t.idx, ∃ x, ns[k]? = some x
  | .nil, _, _, k, hk => by simp [T.idx] at hk
  | .nd i q s l r, _, ⟨h1, x, h2, h3, h4, h5⟩, k, hk => by
    simp only [T.idx, List.mem_cons, List.mem_append] at hk
    rcases hk with rfl | hk | hk
    · exact ⟨x, h2⟩
    · exact h4.get k hk
    · exact h5.get k hk
theorem Holds.sub {ns : List Nd} {p : K} : ∀ {t : T} {at_ : Int}, Holds ns at_ t → Holds ns (rootOf (T.sub p t)) (T.sub p t)
  | .nil, _, h => by obtain rfl := h; exact rfl
  | .nd i q s l r, at_, h => by
    cases hs : stop q p
    · rw [sub_step hs]
      obtain ⟨h1, x, h2, h3, h4, h5⟩ := h
      cases bitOf p q.length
      · exact h4.sub
      · exact h5.sub
    · rw [sub_stop hs]
      obtain ⟨h1, h2⟩ := h
      exact ⟨rfl, h2⟩
theorem IsNd.kid {x : Nd} {q : K} {s : Option Int} (h : IsNd x q s) (b : Bool) (v : Int) : IsNd (x.kid b v) q s := by
  cases b <;> exact ⟨h.a, h.n, h.b, h.v⟩
theorem Holds.repl {ns ns' : List Nd} {p : K} {f : T → T} {v : Int} : ∀ {t : T} {at_ : Int}, Holds ns at_ t → t.idx.Nodup → ∀ {i : Nat} {b : Bool}, plc p t = some (i, b) →
    (∃ x, ns[i]? = some x ∧ ns'[i]? = some (x.kid b v)) → (∀ k ∈ t.idx, k ∉ (T.sub p t).idx → k ≠ i → ns'[k]? = ns[k]?) → Holds ns' v (f (T.sub p t)) → Holds ns' at_ (T.repl p f t)
  | .nil, _, _, _, _, _, h, _, _, _ => by simp [plc] at h
  | .nd m q s l r, at_, hh, hn, i, b, h, hx, hk, hv => by
    simp only [T.idx, List.nodup_cons, List.mem_append, not_or, List.nodup_append] at hn
    obtain ⟨⟨n1, n2⟩, n3, n4, n5⟩ := hn
    cases hs : stop q p
    · rw [plc_step hs] at h
      rw [sub_step hs] at hk hv
      rw [repl_step hs]
      obtain ⟨h1, x, h2, h3, h4, h5⟩ := hh
      simp only [T.idx, List.mem_cons, List.mem_append] at hk
      cases hb : bitOf p q.length <;> simp only [hb, Bool.false_eq_true, ↓reduceIte] at h hk hv ⊢
      · cases hp : plc p l with
        | none =>
          rw [hp] at h; cases h
          obtain ⟨x', hx1, hx2⟩ := hx
          rw [h2] at hx1; cases hx1
          rw [(plc_none hp).1] at hv hk
          rw [(plc_none hp).2 f]
          exact ⟨h1, x.kid false v, hx2, h3.kid false v, hv, h5.congr fun k hk' => hk k (.inr (.inr hk')) (fun e => n5 k e k hk' rfl) (fun e => n2 (e ▸ hk'))⟩
        | some y =>
          rw [hp] at h; cases h
          have hm := plc_mem n3 hp
          exact ⟨h1, x, (hk m (.inl rfl) (fun e => n1 (sub_idx e)) (fun e => n1 (e ▸ hm.1))).trans h2, h3, h4.repl n3 hp hx (fun k hk1 hk2 hk3 => hk k (.inr (.inl hk1)) hk2 hk3) hv,
            h5.congr fun k hk' => hk k (.inr (.inr hk')) (fun e => n5 k (sub_idx e) k hk' rfl) (fun e => n5 _ hm.1 k hk' e.symm)⟩
      · cases hp : plc p r with
        | none =>
          rw [hp] at h; cases h
          obtain ⟨x', hx1, hx2⟩ := hx
          rw [h2] at hx1; cases hx1
          rw [(plc_none hp).1] at hv hk
          rw [(plc_none hp).2 f]
          exact ⟨h1, x.kid true v, hx2, h3.kid true v, h4.congr fun k hk' => hk k (.inr (.inl hk')) (fun e => n5 k hk' k e rfl) (fun e => n1 (e ▸ hk')), hv⟩
        | some y =>
          rw [hp] at h; cases h
          have hm := plc_mem n4 hp
          exact ⟨h1, x, (hk m (.inl rfl) (fun e => n2 (sub_idx e)) (fun e => n2 (e ▸ hm.1))).trans h2, h3, h4.congr fun k hk' => hk k (.inr (.inl hk')) (fun e => n5 k hk' k (sub_idx e) rfl) (fun e => n5 k hk' _ hm.1 e),
            h5.repl n4 hp hx (fun k hk1 hk2 hk3 => hk k (.inr (.inr hk1)) hk2 hk3) hv⟩
    · rw [plc_stop hs] at h; cases h
def Chain (ns : List Nd) : Int → List Nat → Prop
  | f, [] => f = -1
  | f, i :: t => f = (i : Int) ∧ ∃ x, ns[i]? = some x ∧ Chain ns x.k0 t
theorem Chain.congr {ns ns' : List Nd} : ∀ {fl : List Nat} {f : Int}, Chain ns f fl → (∀ k ∈ fl, ns'[k]? = ns[k]?) → Chain ns' f fl
  | [], _, h, _ => h
  | i :: t, _, ⟨h1, x, h2, h3⟩, hc => ⟨h1, x, (hc i (by simp)).trans h2, h3.congr fun k hk => hc k (by simp [hk])⟩
structure Pool (s : St) (U fl : List Nat) : Prop where
  chain : Chain s.ns s.free fl
  nodup : (U ++ fl).Nodup
  len : U.length + fl.length = s.ns.length
  lt : ∀ k ∈ U, k < s.ns.length
theorem Pool.perm {s : St} {U V fl : List Nat} (h : Pool s U fl) (hp : List.Perm U V) : Pool s V fl :=
  ⟨h.chain, (hp.append_right fl).nodup_iff.1 h.nodup, by rw [← hp.length_eq]; exact h.len, fun k hk => h.lt k (hp.mem_iff.2 hk)⟩
theorem Pool.add {s : St} {U fl : List Nat} (h : Pool s U fl) (x : Nd) : ∃ (i : Nat) (fl' : List Nat), (s.add x).1 = (i : Int) ∧ Pool (s.add x).2 (U ++ [i]) fl' ∧ (s.add x).2.ns[i]? = some x ∧ (∀ k ∈ U, (s.add x).2.ns[k]? = s.ns[k]?) ∧ i ∉ U ∧
    (s.add x).2.root = s.root ∧ (s.add x).2.room = s.room ∧ (s.add x).2.used = s.used + 1 := by
  obtain ⟨h1, h2, h3, h4⟩ := h
  cases fl with
  | nil =>
    obtain h1 : s.free = -1 := h1
    unfold St.add
    rw [if_pos h1]
    have hn : s.ns.length ∉ U := fun hm => by have := h4 _ hm; omega
    refine ⟨s.ns.length, [], rfl, ⟨h1, ?_, by simp at h3 ⊢; omega, fun k hk => ?_⟩, by simp, fun k hk => ?_, hn, rfl, rfl, rfl⟩
    · simp only [List.append_nil] at h2 ⊢
      exact List.nodup_append.2 ⟨h2, by simp, fun a ha b hb => by simp at hb; subst hb; exact fun e => hn (e ▸ ha)⟩
    · simp only [List.length_append, List.length_cons, List.length_nil]
      rcases List.mem_append.1 hk with hk | hk
      · have := h4 k hk; omega
      · simp at hk; omega
    · exact List.getElem?_append_left (h4 k hk)
  | cons i t =>
    obtain ⟨e, y, hy, hc⟩ := h1
    have hi : i < s.ns.length := (List.getElem?_eq_some_iff.1 hy).1
    have hnd := List.nodup_append.1 h2
    have hiU : i ∉ U := fun hm => hnd.2.2 i hm i (by simp) rfl
    have hit : i ∉ t := (List.nodup_cons.1 hnd.2.1).1
    unfold St.add
    rw [if_neg (by omega), e]
    simp only [Int.toNat_natCast]
    have hk0 : (s.ns.getD i Nd.zero).k0 = y.k0 := by rw [List.getD_eq_getElem?_getD, hy]; rfl
    rw [hk0]
    refine ⟨i, t, rfl, ⟨hc.congr fun k hk => ?_, ?_, by simp at h3 ⊢; omega, fun k hk => ?_⟩, by simp [hi], fun k hk => ?_, hiU, by first | rfl | trivial, by first | rfl | trivial, by first | rfl | trivial⟩
    · exact List.getElem?_set_ne (fun (e : i = k) => hit (e ▸ hk))
    · simpa using h2
    · simp only [List.length_set]
      rcases List.mem_append.1 hk with hk | hk
      · exact h4 k hk
      · simp at hk; omega
    · exact List.getElem?_set_ne (fun (e : i = k) => hiU (e ▸ hk))
theorem Pool.set {s : St} {U fl : List Nat} (h : Pool s U fl) {i : Nat} (hi : i ∈ U) (x : Nd) : Pool { s with ns := s.ns.set i x } U fl :=
  ⟨h.chain.congr fun k hk => List.getElem?_set_ne (fun e => (List.nodup_append.1 h.nodup).2.2 i hi k hk e), h.nodup, by simpa using h.len, fun k hk => by simpa using h.lt k hk⟩
theorem Pool.drop {s : St} {U V fl : List Nat} {i : Nat} (h : Pool s U fl) (hp : List.Perm U (V ++ [i])) : Pool (s.drop i) V (i :: fl) := by
  have hi : i ∈ U := hp.mem_iff.2 (by simp)
  have hil := h.lt i hi
  have h' := h.perm hp
  have hnd := List.nodup_append.1 h.nodup
  refine ⟨⟨rfl, ⟨0, 0, s.free, -1, false, 0⟩, ?_, ?_⟩, ?_, ?_, fun k hk => ?_⟩
  · exact List.getElem?_set_self hil
  · exact h.chain.congr fun k hk => List.getElem?_set_ne (fun e => hnd.2.2 i hi k hk e)
  · simpa using h'.nodup
  · have := h'.len
    simp only [St.drop, List.length_set, List.length_append, List.length_cons, List.length_nil] at this ⊢
    omega
  · simp only [St.drop, List.length_set]
    exact h.lt k (hp.mem_iff.2 (by simp [hk]))
structure Rep0 (s : St) (t : T) (fl : List Nat) : Prop where
  holds : Holds s.ns s.root t
  pool : Pool s t.idx fl
  used : s.used = (t.size : Int)
  short : Short t
theorem Rep0.nodup {s : St} {t : T} {fl : List Nat} (h : Rep0 s t fl) : t.idx.Nodup := (List.nodup_append.1 h.pool.nodup).1
theorem keys_repl {p : K} {f : T → T} : ∀ {t : T}, (∀ x ∈ (f (T.sub p t)).keys, x ∈ (T.sub p t).keys ∨ x.length ≤ 32) → ∀ x ∈ (T.repl p f t).keys, x ∈ t.keys ∨ x.length ≤ 32
  | .nil, h, x, hx => h x hx
  | .nd i q s l r, h, x, hx => by
    cases hs : stop q p
    · rw [sub_step hs] at h
      rw [repl_step hs] at hx
      cases hb : bitOf p q.length <;> simp only [hb, Bool.false_eq_true, ↓reduceIte] at h hx <;> simp only [T.keys, List.mem_cons, List.mem_append] at hx ⊢
      · rcases hx with hx | hx | hx
        · exact .inl (.inl hx)
        · exact (keys_repl h x hx).elim (fun h => .inl (.inr (.inl h))) .inr
        · exact .inl (.inr (.inr hx))
      · rcases hx with hx | hx | hx
        · exact .inl (.inl hx)
        · exact .inl (.inr (.inl hx))
        · exact (keys_repl h x hx).elim (fun h => .inl (.inr (.inr h))) .inr
    · rw [sub_stop hs] at h
      rw [repl_stop hs] at hx
      exact h x hx
theorem Rep0.step {s s1 : St} {t : T} {fl fl' : List Nat} (h : Rep0 s t fl) (p : K) (f : T → T) {v : Int} (hroot : s1.root = s.root)
    (hk : ∀ k ∈ t.idx, k ∉ (T.sub p t).idx → s1.ns[k]? = s.ns[k]?) (hv : Holds s1.ns v (f (T.sub p t))) (hpar : ∀ i b, plc p t = some (i, b) → i ∉ (f (T.sub p t)).idx)
    (hpool : Pool s1 (T.repl p f t).idx fl') (hmem : ∀ i b, plc p t = some (i, b) → i ∈ (T.repl p f t).idx) (hused : s1.used = ((T.repl p f t).size : Int)) (hshort : Short (T.repl p f t)) : Rep0 (s1.put (plc p t) v) (T.repl p f t) fl' := by
  cases hp : plc p t with
  | none =>
    obtain ⟨e1, e2⟩ := plc_none hp
    rw [e1] at hv
    refine ⟨?_, ⟨hpool.chain, hpool.nodup, hpool.len, hpool.lt⟩, hused, hshort⟩
    rw [e2 f]; exact hv
  | some y =>
    obtain ⟨i, b⟩ := y
    have hm := plc_mem h.nodup hp
    obtain ⟨x, hx⟩ := h.holds.get i hm.1
    have hx1 : s1.ns[i]? = some x := (hk i hm.1 hm.2).trans hx
    have hi : i < s1.ns.length := (List.getElem?_eq_some_iff.1 hx1).1
    have hg : s1.ns.getD i Nd.zero = x := by rw [List.getD_eq_getElem?_getD, hx1]; rfl
    have e : s1.put (some (i, b)) v = { s1 with ns := s1.ns.set i (x.kid b v) } := by
      show ({ s1 with ns := s1.ns.set i ((s1.ns.getD i Nd.zero).kid b v) } : St) = _
      rw [hg]
    rw [e]
    refine ⟨?_, hpool.set (hmem i b hp) _, hused, hshort⟩
    show Holds (s1.ns.set i (x.kid b v)) s1.root _
    rw [hroot]
    refine h.holds.repl h.nodup hp ⟨x, hx, by simp [hi]⟩ (fun k h1 h2 h3 => ?_) (hv.congr fun k hk' => List.getElem?_set_ne (fun (e : i = k) => hpar i b hp (e ▸ hk')))
    rw [List.getElem?_set_ne (Ne.symm h3)]
    exact hk k h1 h2
end Go.Proofs.Ytjffikckddijmaa
namespace Go.Proofs.Ytjffikckddijmaa
set_option linter.unusedVariables false
set_option linter.unusedSimpArgs false
theorem repl_congr {p : K} {f g : T → T} : ∀ {t : T}, f (T.sub p t) = g (T.sub p t) → T.repl p f t = T.repl p g t
  | .nil, h => h
  | .nd i q s l r, h => by
    cases hs : stop q p
    · rw [sub_step hs] at h
      rw [repl_step hs, repl_step hs]
      cases hb : bitOf p q.length <;> simp only [hb, Bool.false_eq_true, ↓reduceIte] at h ⊢ <;> rw [repl_congr h]
    · rw [sub_stop hs] at h
      rw [repl_stop hs, repl_stop hs, h]
theorem Holds.mark {ns : List Nd} {p : K} {m : Nat} {q : K} {s s' : Option Int} {l r : T} {x y : Nd} (hx : ns[m]? = some x) (hy : IsNd y q s') (h0 : y.k0 = x.k0) (h1 : y.k1 = x.k1) :
    ∀ {t : T} {at_ : Int}, Holds ns at_ t → t.idx.Nodup → T.sub p t = .nd m q s l r → Holds (ns.set m y) at_ (T.repl p (fun _ => .nd m q s' l r) t)
  | .nil, _, _, _, h => by cases h
  | .nd i q0 s0 l0 r0, at_, hh, hn, h => by
    have hm : m < ns.length := (List.getElem?_eq_some_iff.1 hx).1
    simp only [T.idx, List.nodup_cons, List.mem_append, not_or, List.nodup_append] at hn
    obtain ⟨⟨n1, n2⟩, n3, n4, n5⟩ := hn
    cases hs : stop q0 p
    · rw [sub_step hs] at h
      rw [repl_step hs]
      obtain ⟨e, z, e2, e3, e4, e5⟩ := hh
      cases hb : bitOf p q0.length <;> simp only [hb, Bool.false_eq_true, ↓reduceIte] at h ⊢
      · have hml : m ∈ l0.idx := sub_idx (p := p) (by rw [h]; simp [T.idx])
        exact ⟨e, z, (List.getElem?_set_ne (fun (e : m = i) => n1 (e ▸ hml))).trans e2, e3, e4.mark hx hy h0 h1 n3 h, e5.congr fun k hk => List.getElem?_set_ne (fun (e : m = k) => n5 m hml k hk e)⟩
      · have hmr : m ∈ r0.idx := sub_idx (p := p) (by rw [h]; simp [T.idx])
        exact ⟨e, z, (List.getElem?_set_ne (fun (e : m = i) => n2 (e ▸ hmr))).trans e2, e3, e4.congr fun k hk => List.getElem?_set_ne (fun (e : m = k) => n5 k hk m hmr e.symm), e5.mark hx hy h0 h1 n4 h⟩
    · rw [sub_stop hs] at h
      rw [repl_stop hs]
      cases h
      obtain ⟨e, z, e2, e3, e4, e5⟩ := hh
      rw [hx] at e2; cases e2
      refine ⟨e, y, by simp [hm], hy, ?_, ?_⟩
      · rw [h0]; exact e4.congr fun k hk => List.getElem?_set_ne (fun (e : m = k) => n1 (e ▸ hk))
      · rw [h1]; exact e5.congr fun k hk => List.getElem?_set_ne (fun (e : m = k) => n2 (e ▸ hk))
theorem Rep0.mark {s0 : St} {t : T} {fl : List Nat} (h : Rep0 s0 t fl) {p : K} {m : Nat} {q : K} {s s' : Option Int} {l r : T} {x y : Nd} (hx : s0.ns[m]? = some x) (hy : IsNd y q s') (h0 : y.k0 = x.k0) (h1 : y.k1 = x.k1) (hs : T.sub p t = .nd m q s l r) :
    Rep0 { s0 with ns := s0.ns.set m y } (T.repl p (fun _ => .nd m q s' l r) t) fl := by
  have hidx := T.repl_idx p (fun _ => T.nd m q s' l r) [] t (by rw [hs]; simp [T.idx])
  have hsz := T.size_repl (p := p) (f := fun _ => T.nd m q s' l r) (n := 0) (t := t) (by rw [hs]; simp [T.size])
  have hm : m ∈ t.idx := sub_idx (p := p) (by rw [hs]; simp [T.idx])
  refine ⟨h.holds.mark hx hy h0 h1 h.nodup hs, (h.pool.set hm y).perm (by simpa using hidx.symm), by rw [hsz]; simpa using h.used, fun k hk => ?_⟩
  rcases keys_repl (p := p) (f := fun _ => T.nd m q s' l r) (t := t) (by rw [hs]; intro x hx; exact .inl (by simpa [T.keys] using hx)) k hk with hk | hk
  · exact h.short k hk
  · exact hk
theorem Rep0.subNode {s0 : St} {t : T} {fl : List Nat} (h : Rep0 s0 t fl) {p : K} {m : Nat} {q : K} {s : Option Int} {l r : T} (hs : T.sub p t = .nd m q s l r) : ∃ x, s0.ns[m]? = some x ∧ IsNd x q s ∧ Holds s0.ns x.k0 l ∧ Holds s0.ns x.k1 r ∧ m ∈ t.idx := by
  have h1 := h.holds.sub (p := p)
  rw [hs] at h1
  obtain ⟨_, x, h2, h3, h4, h5⟩ := h1
  exact ⟨x, h2, h3, h4, h5, sub_idx (p := p) (by rw [hs]; simp [T.idx])⟩
def own (p : K) (v : Int) : Nd := ⟨(ad p : Int), (p.length : Int), -1, -1, true, v⟩
theorem own_is (p : K) (v : Int) : IsNd (own p v) p (some v) := ⟨rfl, rfl, rfl, fun u hu => by cases hu; rfl⟩
theorem ins_keys {p : K} {v : Int} {i j : Nat} (hp : p.length ≤ 32) : ∀ {t : T}, ∀ x ∈ (T.insAt p v i j t).keys, x ∈ t.keys ∨ x.length ≤ 32
  | .nil, x, hx => by simp [T.insAt, T.keys] at hx; subst hx; exact .inr hp
  | .nd m q s l r, x, hx => by
    have hl : (lcp p q).length ≤ 32 := Nat.le_trans (lcp_left p q).length_le hp
    have hh : ∀ y, y ∈ (T.nd m q s l r).keys ∨ y = p ∨ y = lcp p q → y ∈ (T.nd m q s l r).keys ∨ y.length ≤ 32 := fun y hy => hy.elim .inl fun hy => .inr (hy.elim (fun e => e ▸ hp) (fun e => e ▸ hl))
    apply hh
    rw [T.insAt_nd] at hx
    split at hx
    · exact .inl (by simpa [T.keys] using hx)
    · split at hx
      · split at hx
        · simp only [T.keys, List.mem_cons, List.mem_append, List.not_mem_nil, or_false] at hx ⊢
          rcases hx with hx | hx | hx
          · exact .inr (.inr hx)
          · exact .inl hx
          · exact .inr (.inl hx)
        · simp only [T.keys, List.mem_cons, List.mem_append, List.not_mem_nil, or_false] at hx ⊢
          rcases hx with hx | hx | hx
          · exact .inr (.inr hx)
          · exact .inr (.inl hx)
          · exact .inl hx
      · split at hx
        · simp only [T.keys, List.mem_cons, List.mem_append, List.not_mem_nil, false_or] at hx ⊢
          rcases hx with hx | hx
          · exact .inr (.inl hx)
          · exact .inl hx
        · simp only [T.keys, List.mem_cons, List.mem_append, List.not_mem_nil, or_false] at hx ⊢
          rcases hx with hx | hx
          · exact .inr (.inl hx)
          · exact .inl hx
theorem short_ins {p : K} {v : Int} {i j : Nat} {t : T} (hp : p.length ≤ 32) (h : Short t) : Short (T.ins p v i j t) := fun x hx =>
  (keys_repl (fun y hy => ins_keys hp y hy) x hx).elim (h x) id
theorem Rep0.putA {s : St} {t : T} {fl : List Nat} (h : Rep0 s t fl) {p : K} {v : Int} {m : Nat} {sv : Option Int} {l r : T} {x : Nd} (hs : T.sub p t = .nd m p sv l r) (hx : s.ns[m]? = some x) (i j : Nat) :
    Rep0 { s with ns := s.ns.set m { x with b := true, v := v } } (T.ins p v i j t) fl := by
  obtain ⟨x', h1, h2, _⟩ := h.subNode hs
  rw [hx] at h1; cases h1
  have := h.mark (p := p) (s' := some v) (y := { x with b := true, v := v }) hx ⟨h2.a, h2.n, rfl, fun u hu => by cases hu; rfl⟩ rfl rfl hs
  rw [T.ins, repl_congr (g := fun _ => T.nd m p (some v) l r) (by rw [hs, T.insAt_nd, if_pos rfl])]
  exact this
theorem Rep0.putBC {s : St} {t : T} {fl : List Nat} (h : Rep0 s t fl) {p : K} {v : Int} (hp : p.length ≤ 32) (x : Nd)
    (hv : ∀ i : Nat, ∀ ns', ns'[i]? = some x → (∀ k ∈ t.idx, ns'[k]? = s.ns[k]?) → ∀ j, Holds ns' i (T.insAt p v i j (T.sub p t)))
    (hidx : ∀ i j, List.Perm (T.insAt p v i j (T.sub p t)).idx ((T.sub p t).idx ++ [i])) (hn : T.needs p (T.sub p t) = 1) :
    ∃ i fl', ∀ j, Rep0 ((s.add x).2.put (plc p t) (s.add x).1) (T.ins p v i j t) fl' := by
  obtain ⟨i, fl', e1, e2, e3, e4, e5, e6, e7, e8⟩ := h.pool.add x
  refine ⟨i, fl', fun j => ?_⟩
  rw [e1]
  have hperm := T.repl_idx p (T.insAt p v i j) [i] t (hidx i j)
  refine h.step p (T.insAt p v i j) e6 (fun k hk _ => e4 k hk) (hv i _ e3 e4 j) (fun i' b hpl hm => ?_) (e2.perm hperm.symm) (fun i' b hpl => ?_) ?_ (short_ins hp h.short)
  · have hm' := plc_mem h.nodup hpl
    rcases List.mem_append.1 ((hidx i j).mem_iff.1 hm) with hm | hm
    · exact hm'.2 hm
    · simp at hm; subst hm; exact e5 hm'.1
  · exact hperm.mem_iff.2 (List.mem_append_left _ (plc_mem h.nodup hpl).1)
  · have := T.size_ins p v i j t
    rw [T.ins] at this
    rw [e8, h.used, this, hn]
    push_cast; rfl
theorem Rep0.putB {s : St} {t : T} {fl : List Nat} (h : Rep0 s t fl) {p : K} {v : Int} (hp : p.length ≤ 32) (hs : T.sub p t = .nil) :
    ∃ i fl', ∀ j, Rep0 ((s.add (own p v)).2.put (plc p t) (s.add (own p v)).1) (T.ins p v i j t) fl' := by
  refine h.putBC hp (own p v) (fun i ns' h1 _ j => ?_) (fun i j => ?_) (by rw [hs]; rfl)
  · rw [hs]
    exact ⟨rfl, own p v, h1, own_is p v, rfl, rfl⟩
  · rw [hs]
    simp [T.insAt, T.idx]
theorem Rep0.putC {s : St} {t : T} {fl : List Nat} (h : Rep0 s t fl) {p : K} {v : Int} (hp : p.length ≤ 32) {m : Nat} {q : K} {sv : Option Int} {l r : T} (hs : T.sub p t = .nd m q sv l r) (hne : q ≠ p) (hlt : ¬ (lcp p q).length < p.length) :
    ∃ i fl', ∀ j, Rep0 ((s.add ((own p v).kid (bitOf q (lcp p q).length) m)).2.put (plc p t) (s.add ((own p v).kid (bitOf q (lcp p q).length) m)).1) (T.ins p v i j t) fl' := by
  have hsub : Holds s.ns m (.nd m q sv l r) := by have := h.holds.sub (p := p); rw [hs] at this; exact this
  refine h.putBC hp _ (fun i ns' h1 h2 j => ?_) (fun i j => ?_) (by rw [hs, T.needs, if_neg hne, if_neg hlt])
  · have h3 : Holds ns' m (.nd m q sv l r) := hsub.congr fun k hk => h2 k (sub_idx (p := p) (by rw [hs]; exact hk))
    rw [hs, T.insAt_nd, if_neg hne, if_neg hlt]
    cases hb : bitOf q (lcp p q).length
    · rw [hb] at h1
      exact ⟨rfl, _, h1, (own_is p v).kid _ _, h3, rfl⟩
    · rw [hb] at h1
      exact ⟨rfl, _, h1, (own_is p v).kid _ _, rfl, h3⟩
  · rw [hs, T.insAt_nd, if_neg hne, if_neg hlt]
    split
    · simp only [T.idx, List.nil_append]
      exact (List.perm_append_singleton i (m :: (l.idx ++ r.idx))).symm
    · simp only [T.idx, List.append_nil]
      exact (List.perm_append_singleton i (m :: (l.idx ++ r.idx))).symm
def fork (c : K) (bp : Bool) (i m : Int) : Nd := if bp then ⟨(ad c : Int), (c.length : Int), m, i, false, 0⟩ else ⟨(ad c : Int), (c.length : Int), i, m, false, 0⟩
theorem Rep0.putD {s : St} {t : T} {fl : List Nat} (h : Rep0 s t fl) {p : K} {v : Int} (hp : p.length ≤ 32) {m : Nat} {q : K} {sv : Option Int} {l r : T} (hs : T.sub p t = .nd m q sv l r) (hne : q ≠ p) (hlt : (lcp p q).length < p.length) :
    ∃ i j fl', Rep0 (((s.add (own p v)).2.add (fork (lcp p q) (bitOf p (lcp p q).length) (s.add (own p v)).1 m)).2.put (plc p t) ((s.add (own p v)).2.add (fork (lcp p q) (bitOf p (lcp p q).length) (s.add (own p v)).1 m)).1) (T.ins p v i j t) fl' := by
  have hsub : Holds s.ns m (.nd m q sv l r) := by have := h.holds.sub (p := p); rw [hs] at this; exact this
  obtain ⟨i, fl1, a1, a2, a3, a4, a5, a6, a7, a8⟩ := h.pool.add (own p v)
  obtain ⟨j, fl2, b1, b2, b3, b4, b5, b6, b7, b8⟩ := a2.add (fork (lcp p q) (bitOf p (lcp p q).length) (s.add (own p v)).1 m)
  refine ⟨i, j, fl2, ?_⟩
  rw [b1]
  have hidx : List.Perm (T.insAt p v i j (T.sub p t)).idx ((T.sub p t).idx ++ [i, j]) := by
    rw [hs, T.insAt_nd, if_neg hne, if_pos hlt]
    split
    · have := (List.perm_append_singleton j ((m :: (l.idx ++ r.idx)) ++ [i])).symm
      simpa [T.idx] using this
    · have := ((List.Perm.swap i j (m :: (l.idx ++ r.idx)))).trans (List.perm_append_comm (l₁ := [i, j]) (l₂ := m :: (l.idx ++ r.idx)))
      simpa [T.idx] using this
  have hperm := T.repl_idx p (T.insAt p v i j) [i, j] t hidx
  have hns : ∀ k ∈ t.idx, ((s.add (own p v)).2.add (fork (lcp p q) (bitOf p (lcp p q).length) (s.add (own p v)).1 m)).2.ns[k]? = s.ns[k]? := fun k hk => (b4 k (List.mem_append_left _ hk)).trans (a4 k hk)
  have hni := (b4 i (List.mem_append_right _ (by simp))).trans a3
  refine h.step p (T.insAt p v i j) (b6.trans a6) (fun k hk _ => hns k hk) ?_ (fun i' b hpl hm => ?_) (b2.perm (by simpa using hperm.symm)) (fun i' b hpl => ?_) ?_ (short_ins hp h.short)
  · have h3 := hsub.congr fun k hk => hns k (sub_idx (p := p) (by rw [hs]; exact hk))
    have h4 : Holds ((s.add (own p v)).2.add (fork (lcp p q) (bitOf p (lcp p q).length) (s.add (own p v)).1 m)).2.ns (i : Int) (.nd i p (some v) .nil .nil) := ⟨rfl, _, hni, own_is p v, rfl, rfl⟩
    rw [← a1] at h4
    rw [hs, T.insAt_nd, if_neg hne, if_pos hlt]
    cases hb : bitOf p (lcp p q).length
    · simp only [Bool.false_eq_true, ↓reduceIte]
      rw [hb] at b3 h3 h4
      exact ⟨rfl, _, b3, ⟨rfl, rfl, rfl, by simp⟩, h4, h3⟩
    · simp only [↓reduceIte]
      rw [hb] at b3 h3 h4
      exact ⟨rfl, _, b3, ⟨rfl, rfl, rfl, by simp⟩, h3, h4⟩
  · have hm' := plc_mem h.nodup hpl
    rcases List.mem_append.1 (hidx.mem_iff.1 hm) with hm | hm
    · exact hm'.2 hm
    · simp only [List.mem_cons, List.not_mem_nil, or_false] at hm
      rcases hm with rfl | rfl
      · exact a5 hm'.1
      · exact b5 (List.mem_append_left _ hm'.1)
  · exact hperm.mem_iff.2 (List.mem_append_left _ (plc_mem h.nodup hpl).1)
  · have := T.size_ins p v i j t
    rw [T.ins] at this
    rw [b8, a8, h.used, this, hs, T.needs, if_neg hne, if_pos hlt]
    push_cast; omega
end Go.Proofs.Ytjffikckddijmaa
