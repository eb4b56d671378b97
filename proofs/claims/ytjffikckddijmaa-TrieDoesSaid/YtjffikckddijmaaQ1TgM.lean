/-
  Chapter 7: a trie, by what is told of in it: the contracts of New, Put, Cut, Find, Walk, Nodes.
-/
import Derived.Test.YtjffikckddijmaaQ1TgZ
import Derived.Test.YtjffikckddijmaaQ1TriF
import Derived.Test.YtjffikckddijmaaQ1TgX
namespace Go.Proofs.Ytjffikckddijmaa
open Go.RowKit Go.Proofs.YtjffikckddijmaaW.PrintWords Go.Proofs.YtjffikckddijmaaW.PrintLast Go.Proofs.YtjffikckddijmaaW.PrintMore
open All All.BM
set_option linter.unusedVariables false
set_option linter.unusedSimpArgs false
def kOf (a n : Int) : K := keyOf (lo a) (bd n)
theorem kOf_spec {a n : Int} (h : isPre a n) : (kOf a n).length ≤ 32 ∧ a = (ad (kOf a n) : Int) ∧ n = ((kOf a n).length : Int) := by
  obtain ⟨h1, h2, h3, h4, h5⟩ := h
  have hb := bd_of n h1 h2
  unfold kOf
  refine ⟨by rw [keyOf_length]; exact bd_le n, ?_, by rw [keyOf_length]; exact hb.symm⟩
  rw [ad_keyOf (lo_lt a) (bd_le n)]; exact h5.symm
def TR (w : World) (base g : Nat) (a : Option Nat) (L : Es) (room : Nat) : Prop :=
  ∃ sl s t fl, TM w base g sl s ∧ sl.ownBlock = a ∧ Rep0 s t fl ∧ t.WF ∧ s.room = (room : Int) ∧ t.size ≤ room ∧ room ≤ 1000 ∧ L = t.ents
def TrOp (w : World) (base g : Nat) (a : Option Nat) (v : Value) (L : Es) (room : Nat) (e : Ending) (w' : World) : Prop :=
  ∃ a', e = .returned v ∧ TR w' base g a' L room ∧ Fr w w' g a ∧ (a' = a ∨ ∃ k, a' = some k ∧ w.heap.size ≤ k)
def putL (L : Es) (room : Nat) (a n v : Int) : Int × Es := if isPre a n then (if nod (insL L (kOf a n) v) ≤ room then (0, insL L (kOf a n) v) else (7, L)) else (1, L)
def cutL (L : Es) (a n : Int) : Int × Es := if isPre a n then (if kOf a n ∈ ks L then (0, delL L (kOf a n)) else (5, L)) else (1, L)
theorem put_room' (s : St) (pl : Option (Nat × Bool)) (v : Int) : (s.put pl v).room = s.room := by rcases pl with _ | ⟨i, b⟩ <;> rfl
theorem add_room (s : St) (x : Nd) : (s.add x).2.room = s.room := by unfold St.add; split <;> rfl
theorem TR.below {w w1 : World} {base g : Nat} {a : Option Nat} {L : Es} {room : Nat} (h : TR w base g a L room) (hb : Below w.heap.size w w1) : TR w1 base g a L room := by
  obtain ⟨sl, s, t, fl, h1, r⟩ := h
  exact ⟨sl, s, t, fl, h1.below hb, r⟩
theorem TR.lt {w : World} {base g : Nat} {a : Option Nat} {L : Es} {room : Nat} (h : TR w base g a L room) : g < w.heap.size ∧ base ≤ g ∧ ∀ k, a = some k → k < w.heap.size ∧ base ≤ k := by
  obtain ⟨sl, s, t, fl, h1, h2, _⟩ := h
  refine ⟨h1.lt, h1.bg, fun k hk => ?_⟩
  have := h1.row.lt k (h2.trans hk)
  exact ⟨this.2, this.1⟩
theorem TR.keep {w w1 : World} {base g g' : Nat} {a a' : Option Nat} {L : Es} {room : Nat} (h : TR w base g a L room) (hF : Fr w w1 g' a') (hg : g ≠ g') (hga : some g ≠ a') (ha : ∀ k, a = some k → k ≠ g' ∧ some k ≠ a') : TR w1 base g a L room := by
  obtain ⟨sl, s, t, fl, h1, h2, r⟩ := h
  refine ⟨sl, s, t, fl, ⟨(hF.block g h1.lt hg hga).trans h1.blk, ?_, h1.bg, h1.few, h1.apart⟩, h2, r⟩
  exact own_move h1.row fun k hk => hF.block k (h1.row.lt k hk).2 (ha k (h2 ▸ hk)).1 (ha k (h2 ▸ hk)).2
theorem TR.facts {w : World} {base g : Nat} {a : Option Nat} {L : Es} {room : Nat} (h : TR w base g a L room) : Srt L ∧ nod L ≤ room ∧ room ≤ 1000 ∧ L.length ≤ nod L ∧ nod L ≤ 2 * L.length ∧ (L ≠ [] → nod L + 1 ≤ 2 * L.length) ∧ (∀ e ∈ L, e.1.length ≤ 32) := by
  obtain ⟨sl, s, t, fl, h1, h2, h3, h4, h5, h6, h7, rfl⟩ := h
  have h8 := T.size_nod h4
  have h9 := T.size_lt h4
  refine ⟨T.srt_ents h4, by omega, h7, by rw [← h8]; exact T.size_ge t, by omega, fun hn => ?_, fun e he => h3.short _ (T.ents_keys he)⟩
  have := h9.2 (fun e => hn (by rw [e]; rfl))
  omega
theorem new_tr (n : Int) (w : World) (base : Nat) (hb : base ≤ w.heap.size) : TR (w.alloc (.cells #[.slice none 0 0, .int .i64 (-1), .int .i64 (-1), .int .i64 0, .int .i64 (bd1000 n)] 56)) base w.heap.size none [] (bd1000 n).toNat := by
  have h0 : 0 ≤ bd1000 n ∧ bd1000 n ≤ 1000 := by unfold bd1000; omega
  refine ⟨.slice none 0 0, ⟨[], -1, -1, 0, bd1000 n⟩, .nil, [], ⟨heap_alloc_new w _, World.ownsRow_nil _ _ _ _, hb, by simp, by simp [Value.ownBlock]⟩, rfl, ⟨rfl, ⟨rfl, by simp [T.idx], rfl, by simp [T.idx]⟩, rfl, by simp [Short, T.keys]⟩, trivial, ?_, by simp [T.size], by omega, rfl⟩
  show bd1000 n = _
  omega
theorem hl_size (i : Nat) (q : K) (s : Option Int) (l r : T) : (T.hl (.nd i q s l r)).size ≤ (T.nd i q s l r).size := by
  rcases T.hl_cases i q s l r with ⟨e, _⟩ | ⟨_, _, e⟩ | ⟨_, _, _, e⟩ <;> rw [e] <;> simp only [T.size] <;> omega
theorem del_size (p : K) : ∀ t : T, (T.del p t).size ≤ t.size
  | .nil => by simp [T.del]
  | .nd i q s l r => by
    have h1 := del_size p l
    have h2 := del_size p r
    unfold T.del
    split
    · have := hl_size i q none l r
      simp only [T.size] at this ⊢
      omega
    · split
      · have := hl_size i q s l (T.del p r)
        simp only [T.size] at this ⊢
        omega
      · have := hl_size i q s (T.del p l) r
        simp only [T.size] at this ⊢
        omega
theorem sub_stops {p : K} : ∀ {t : T} {m : Nat} {q : K} {s : Option Int} {l r : T}, T.sub p t = .nd m q s l r → stop q p = true
  | .nil, _, _, _, _, _, h => by cases h
  | .nd i q0 s0 l0 r0, m, q, s, l, r, h => by
    cases hs : stop q0 p
    · rw [sub_step hs] at h
      cases hb : bitOf p q0.length <;> rw [hb] at h
      · exact sub_stops h
      · exact sub_stops h
    · rw [sub_stop hs] at h
      cases h; exact hs
theorem put_tr {w : World} {base g : Nat} {a : Option Nat} {L : Es} {room : Nat} (h : TR w base g a L room) (pa pn v : Int) :
    Calls Try.prog 14 #[.pointer (some ⟨g, 0, none⟩), .agg #[.int .i64 pa, .int .i64 pn], .int .i64 v] w (TrOp w base g a (.int .i64 (putL L room pa pn v).1) (putL L room pa pn v).2 room) := by
  have h' := h
  obtain ⟨sl, s, t, fl, h1, h2, h3, h4, h5, h6, h7, rfl⟩ := h
  subst h2
  have hused := h3.used
  have same : ∀ {c : Int} {e : Ending} {w' : World}, e = .returned (.int .i64 c) ∧ Below w.heap.size w w' → TrOp w base g sl.ownBlock (.int .i64 c) t.ents room e w' := fun ⟨he, hb⟩ => ⟨_, he, h'.below hb, Fr.of_below hb _ _, .inl rfl⟩
  unfold putL
  by_cases hpre : isPre pa pn
  · rw [if_pos hpre]
    obtain ⟨hp, e1, e2⟩ := kOf_spec hpre
    generalize kOf pa pn = p at hp e1 e2 ⊢
    subst e1; subst e2
    have hsz := T.size_nod_ins (p := p) (v := v) h4
    have fin : ∀ {s' : St} {i j : Nat} {fl' : List Nat}, Rep0 s' (T.ins p v i j t) fl' → s'.room = s.room → nod (insL t.ents p v) ≤ room → ∀ e w', Did w base g sl (.int .i64 0) s' e w' → TrOp w base g sl.ownBlock (.int .i64 0) (insL t.ents p v) room e w' := by
      rintro s' i j fl' hR hr hn e w' ⟨sl', he, hT, hF, hA⟩
      refine ⟨sl'.ownBlock, he, ⟨sl', s', _, fl', hT, rfl, hR, T.wf_ins h4, hr.trans h5, ?_, h7, (T.ents_ins h4).symm⟩, hF, hA⟩
      rw [T.size_ins]; omega
    have full : ∀ e w', Did w base g sl (.int .i64 7) s e w' → TrOp w base g sl.ownBlock (.int .i64 7) t.ents room e w' := by
      rintro e w' ⟨sl', he, hT, hF, hA⟩
      exact ⟨sl'.ownBlock, he, ⟨sl', s, t, fl, hT, rfl, h3, h4, h5, h6, h7, rfl⟩, hF, hA⟩
    by_cases hr0 : room = 0
    · subst hr0
      have hn : ¬ nod (insL t.ents p v) ≤ 0 := by
        have h8 : 0 < (T.ins p v 0 0 t).size := by
          have := T.ne_nil_ins (p := p) (v := v) (i := 0) (j := 0) (t := t)
          cases h9 : T.ins p v 0 0 t with
          | nil => exact absurd h9 this
          | nd => simp only [T.size]; omega
        rw [T.size_ins] at h8
        omega
      rw [if_neg hn]
      exact (put_room h1 p hp v (by simpa using h5)).mono fun e w' hh => same hh
    · have hr : (s.room == 0) = false := by rw [beq_eq_false_iff_ne, h5]; omega
      cases hs : T.sub p t with
      | nil =>
        rw [hs] at hsz
        simp only [T.needs] at hsz
        by_cases hf : s.room < s.used + 1
        · rw [if_neg (by omega)]
          exact (put_B0 h1 h3 p hp v hr hs (by omega) (by omega) hf).mono full
        · rw [if_pos (by omega)]
          obtain ⟨i, fl', hR⟩ := h3.putB (v := v) hp hs
          exact (put_B1 h1 h3 p hp v hr hs (by omega) (by omega) hf).mono (fin (hR 0) (by rw [put_room', add_room]) (by omega))
      | nd m q sv l r =>
        rw [hs] at hsz
        obtain ⟨x, hx, -, -, -, -⟩ := h3.subNode hs
        by_cases hq : q = p
        · subst hq
          simp only [T.needs, ↓reduceIte] at hsz
          rw [if_pos (by omega)]
          exact (put_A h1 h3 q hp v hr hs hx).mono (fin (h3.putA hs hx 0 0) rfl (by omega))
        · by_cases hl : (lcp p q).length < p.length
          · simp only [T.needs, if_neg hq, if_pos hl] at hsz
            by_cases hf : s.room < s.used + 2
            · rw [if_neg (by omega)]
              exact (put_D0 h1 h3 p hp v hr hs hq hl (by omega) (by omega) hf).mono full
            · rw [if_pos (by omega)]
              obtain ⟨i, j, fl', hR⟩ := h3.putD (v := v) hp hs hq hl
              obtain ⟨b, hb1, hb2⟩ := T.lcp_fork (sub_stops hs) hq hl
              have hc1 := bitOf_of hb1
              have hc2 := bitOf_of hb2
              cases b
              · exact (put_D1f h1 h3 p hp v hr hs hq hl (by omega) (by omega) hf hc1 hc2).mono (fin hR (by rw [put_room', add_room, add_room]) (by omega))
              · exact (put_D1t h1 h3 p hp v hr hs hq hl (by omega) (by omega) hf hc1 hc2).mono (fin hR (by rw [put_room', add_room, add_room]) (by omega))
          · simp only [T.needs, if_neg hq, if_neg hl] at hsz
            by_cases hf : s.room < s.used + 1
            · rw [if_neg (by omega)]
              exact (put_C0 h1 h3 p hp v hr hs hq hl (by omega) (by omega) hf).mono full
            · rw [if_pos (by omega)]
              obtain ⟨i, fl', hR⟩ := h3.putC (v := v) hp hs hq hl
              cases hb : bitOf q (lcp p q).length
              · exact (put_C1f h1 h3 p hp v hr hs hq hl (by omega) (by omega) hf hb).mono (fin (hR 0) (by rw [put_room', add_room]) (by omega))
              · exact (put_C1t h1 h3 p hp v hr hs hq hl (by omega) (by omega) hf hb).mono (fin (hR 0) (by rw [put_room', add_room]) (by omega))
  · rw [if_neg hpre]
    exact (put_bad _ pa pn v hpre w).mono fun e w' hh => same hh
theorem cut_tr {w : World} {base g : Nat} {a : Option Nat} {L : Es} {room : Nat} (h : TR w base g a L room) (pa pn : Int) :
    Calls Try.prog 17 #[.pointer (some ⟨g, 0, none⟩), .agg #[.int .i64 pa, .int .i64 pn]] w (TrOp w base g a (.int .i64 (cutL L pa pn).1) (cutL L pa pn).2 room) := by
  have h' := h
  obtain ⟨sl, s, t, fl, h1, h2, h3, h4, h5, h6, h7, rfl⟩ := h
  subst h2
  have hused := h3.used
  have same : ∀ {c : Int} {e : Ending} {w' : World}, e = .returned (.int .i64 c) ∧ Below w.heap.size w w' → TrOp w base g sl.ownBlock (.int .i64 c) t.ents room e w' := fun ⟨he, hb⟩ => ⟨_, he, h'.below hb, Fr.of_below hb _ _, .inl rfl⟩
  unfold cutL
  by_cases hpre : isPre pa pn
  · rw [if_pos hpre]
    obtain ⟨hp, e1, e2⟩ := kOf_spec hpre
    generalize kOf pa pn = p at hp e1 e2 ⊢
    subst e1; subst e2
    have hhas : p ∈ ks t.ents ↔ T.has p t := by rw [T.has_iff h4]; exact T.mem_ks
    have no : ¬ T.has p t → Calls Try.prog 17 #[.pointer (some ⟨g, 0, none⟩), .agg #[.int .i64 (ad p), .int .i64 p.length]] w (fun e w' => e = .returned (.int .i64 5) ∧ Below w.heap.size w w') → Calls Try.prog 17 #[.pointer (some ⟨g, 0, none⟩), .agg #[.int .i64 (ad p), .int .i64 p.length]] w (TrOp w base g sl.ownBlock (.int .i64 (if p ∈ ks t.ents then (0, delL t.ents p) else ((5 : Int), t.ents)).1) (if p ∈ ks t.ents then (0, delL t.ents p) else ((5 : Int), t.ents)).2 room) := fun hn hc => by
      rw [if_neg (fun hm => hn (hhas.1 hm))]
      exact hc.mono fun e w' hh => same hh
    by_cases hu : s.used = 0
    · refine no (fun ⟨i, v, l, r, hh⟩ => ?_) (cut_empty h1 p hp hu)
      cases t with
      | nil => cases hh
      | nd => simp only [T.size] at hused; omega
    · cases hs : T.sub p t with
      | nil => exact no (fun ⟨i, v, l, r, hh⟩ => by rw [hs] at hh; cases hh) (cut_none h1 h3 p hp hu hs)
      | nd m q sv l r =>
        by_cases hq : q = p
        · subst hq
          cases sv with
          | none => exact no (fun ⟨i, v, l, r, hh⟩ => by rw [hs] at hh; cases hh) (cut_un h1 h3 q hp hu hs)
          | some v =>
            have hm : T.has q t := ⟨m, v, l, r, hs⟩
            rw [if_pos (hhas.2 hm)]
            refine (cut_go h1 h3 q hp hu hs h4 (by omega)).mono ?_
            rintro e w' ⟨s2, fl2, ⟨sl', he, hT, hF, hA⟩, hR, hr⟩
            refine ⟨sl'.ownBlock, he, ⟨sl', s2, _, fl2, hT, rfl, hR, T.wf_del h4, hr.trans h5, ?_, h7, (T.ents_del h4 hm).symm⟩, hF, hA⟩
            have e8 := T.size_nod (T.wf_del (p := q) h4)
            have e9 := hR.used
            have e10 := del_size q t
            omega
        · exact no (fun ⟨i, v, l, r, hh⟩ => by rw [hs] at hh; cases hh; exact hq rfl) (cut_other h1 h3 p hp hu hs hq)
  · rw [if_neg hpre]
    exact (cut_bad _ pa pn hpre w).mono fun e w' hh => same hh
end Go.Proofs.Ytjffikckddijmaa
namespace Go.Proofs.Ytjffikckddijmaa
open Go.RowKit Go.Proofs.YtjffikckddijmaaW.PrintWords Go.Proofs.YtjffikckddijmaaW.PrintLast Go.Proofs.YtjffikckddijmaaW.PrintMore
open All All.BM
set_option linter.unusedVariables false
set_option linter.unusedSimpArgs false
def FindSpec (A : K) (L : Es) (r : Option (K × Int)) : Prop := match r with
  | some e => e ∈ L ∧ e.1 <+: A ∧ ∀ f ∈ L, f.1 <+: A → f.1.length ≤ e.1.length
  | none => ∀ f ∈ L, ¬ f.1 <+: A
def pickB (s : Option Int) (q : K) (b : Option (K × Int)) : Option (K × Int) := match s with | some v => some (q, v) | none => b
theorem find_nd' {A : K} {b : Option (K × Int)} {i : Nat} {q : K} {s : Option Int} {l r : T} (h : q.isPrefixOf A = true) : T.find A b (.nd i q s l r) = T.find A (pickB s q b) (if bitOf A q.length then r else l) := by
  rw [find_nd h]; cases s <;> rfl
theorem find_spec' {A : K} : ∀ (t : T) (b : Option (K × Int)), t.WF → (T.find A b t = b ∧ ∀ f ∈ t.ents, ¬ f.1 <+: A) ∨ (∃ e, T.find A b t = some e ∧ e ∈ t.ents ∧ e.1 <+: A ∧ ∀ f ∈ t.ents, f.1 <+: A → f.1.length ≤ e.1.length)
  | .nil, b, _ => .inl ⟨find_leaf A b, fun f hf => by cases hf⟩
  | .nd i q s l r, b, ⟨h1, h2, h3, h4, h5⟩ => by
    have hall := T.all_under (m := i) (q := q) (s := s) (l := l) (r := r) ⟨h1, h2, h3, h4, h5⟩ (List.prefix_rfl)
    cases hp : q.isPrefixOf A
    · refine .inl ⟨find_not hp, fun f hf hfa => ?_⟩
      have : q <+: A := (hall _ (T.ents_keys hf)).trans hfa
      rw [List.isPrefixOf_iff_prefix.2 this] at hp
      cases hp
    · have hqA : q <+: A := List.isPrefixOf_iff_prefix.1 hp
      rw [find_nd' hp]
      have hmem : ∀ f, f ∈ (T.nd i q s l r).ents → f.1 <+: A → (f.1 = q ∧ s = some f.2) ∨ f ∈ (if bitOf A q.length then r else l).ents := by
        rintro ⟨k, u⟩ hf hfa
        rcases T.mem_nd.1 hf with ⟨e1, e2⟩ | hf | hf
        · exact .inl ⟨e1, e2⟩
        · right
          have := bitOf_of ((h2 _ (T.ents_keys hf)).trans hfa)
          rw [this]; exact hf
        · right
          have := bitOf_of ((h3 _ (T.ents_keys hf)).trans hfa)
          rw [this]; exact hf
      have hsub : ∀ f, f ∈ (if bitOf A q.length then r else l).ents → f ∈ (T.nd i q s l r).ents ∧ q.length < f.1.length := by
        intro f hf
        cases hb : bitOf A q.length <;> rw [hb] at hf
        · exact ⟨T.mem_nd.2 (.inr (.inl hf)), ne_of_snoc (h2 _ (T.ents_keys hf))⟩
        · exact ⟨T.mem_nd.2 (.inr (.inr hf)), ne_of_snoc (h3 _ (T.ents_keys hf))⟩
      have ih : ∀ b', (T.find A b' (if bitOf A q.length then r else l) = b' ∧ ∀ f ∈ (if bitOf A q.length then r else l).ents, ¬ f.1 <+: A) ∨ (∃ e, T.find A b' (if bitOf A q.length then r else l) = some e ∧ e ∈ (if bitOf A q.length then r else l).ents ∧ e.1 <+: A ∧ ∀ f ∈ (if bitOf A q.length then r else l).ents, f.1 <+: A → f.1.length ≤ e.1.length) := by
        intro b'
        cases bitOf A q.length
        · exact find_spec' l b' h4
        · exact find_spec' r b' h5
      rcases ih (pickB s q b) with ⟨e1, e2⟩ | ⟨e, e1, e2, e3, e4⟩
      · cases s with
        | none =>
          refine .inl ⟨e1, fun f hf hfa => ?_⟩
          rcases hmem f hf hfa with ⟨_, h⟩ | h
          · cases h
          · exact e2 f h hfa
        | some v =>
          refine .inr ⟨(q, v), e1, T.mem_nd.2 (.inl ⟨rfl, rfl⟩), hqA, fun f hf hfa => ?_⟩
          rcases hmem f hf hfa with ⟨h, _⟩ | h
          · rw [h]; exact Nat.le_refl _
          · exact absurd hfa (e2 f h)
      · refine .inr ⟨e, e1, (hsub e e2).1, e3, fun f hf hfa => ?_⟩
        rcases hmem f hf hfa with ⟨h, _⟩ | h
        · rw [h]; have := (hsub e e2).2; omega
        · exact e4 f h hfa
theorem find_spec {A : K} {t : T} (h : t.WF) : FindSpec A t.ents (T.find A none t) := by
  rcases find_spec' (A := A) t none h with ⟨e, h⟩ | ⟨e, h1, h2⟩
  · rw [e]; exact h
  · rw [h1]; exact h2
theorem FindSpec.uniq {A : K} {L : Es} (hs : Srt L) {r r' : Option (K × Int)} (h : FindSpec A L r) (h' : FindSpec A L r') : r = r' := by
  cases r with
  | none =>
    cases r' with
    | none => rfl
    | some e => exact absurd h'.2.1 (h e h'.1)
  | some e =>
    cases r' with
    | none => exact absurd h.2.1 (h' e h.1)
    | some f =>
      have h1 := h.2.2 f h'.1 h'.2.1
      have h2 := h'.2.2 e h.1 h.2.1
      have h3 : e.1 = f.1 := (List.prefix_of_prefix_length_le h.2.1 h'.2.1 h2).eq_of_length (by omega)
      obtain ⟨k, u⟩ := e
      obtain ⟨k', u'⟩ := f
      obtain rfl : k = k' := h3
      rw [hs.key h.1 h'.1]
theorem find_tr {w : World} {base g : Nat} {a : Option Nat} {L : Es} {room : Nat} (h : TR w base g a L room) (x : Int) :
    ∃ r, FindSpec (K32 x) L r ∧ Calls Try.prog 16 #[.pointer (some ⟨g, 0, none⟩), .int .i64 x] w (FindP w r) := by
  obtain ⟨sl, s, t, fl, h1, h2, h3, h4, h5, h6, h7, rfl⟩ := h
  refine ⟨T.find (K32 x) none t, find_spec h4, ?_⟩
  have hu := h3.used
  by_cases h0 : s.used = 0
  · have : t = .nil := by
      cases t with
      | nil => rfl
      | nd => simp only [T.size] at hu; omega
    subst this
    rw [find_leaf]
    exact find_empty h1 h0 x
  · exact find_go h1 h3 h0 x
theorem nodes_tr {w : World} {base g : Nat} {a : Option Nat} {L : Es} {room : Nat} (h : TR w base g a L room) : Calls Try.prog 13 #[.pointer (some ⟨g, 0, none⟩)] w fun e w' => e = .returned (.int .i64 (nod L)) ∧ w = w' := by
  obtain ⟨sl, s, t, fl, h1, h2, h3, h4, h5, h6, h7, rfl⟩ := h
  exact (nodes_any h1).mono fun e w' hh => ⟨by rw [hh.1, h3.used, T.size_nod h4], hh.2.symm⟩
def WalkP (w : World) (L : Es) (e : Ending) (w' : World) : Prop := ∃ v, e = .returned v ∧ w'.ownsRow w.heap.size 33 3 v L.length (rowsE L) ∧ Below w.heap.size w w'
theorem walk_tr {w : World} {base g : Nat} {a : Option Nat} {L : Es} {room : Nat} (h : TR w base g a L room) : Calls Try.prog 12 #[.pointer (some ⟨g, 0, none⟩)] w (WalkP w L) := by
  have hf := h.facts
  obtain ⟨sl, s, t, fl, h1, h2, h3, h4, h5, h6, h7, rfl⟩ := h
  exact walk_calls _ _ (by omega) w (.inr ⟨base, g, sl, s, t, rfl, ⟨h1, h1.lt, fun k hk => (h1.row.lt k hk).2, Nat.le_refl _⟩, h3.holds, h3.used, rfl⟩)
def entS (e : K × Int) : S33 := ⟨⟨(ad e.1 : Int), (e.1.length : Int)⟩, e.2⟩
def ents3 (L : Es) : List S33 := L.map entS
theorem rowsE_get : ∀ {L : Es} {j : Nat} {e : K × Int} {i : Nat}, L[j]? = some e → i < 3 → (rowsE L)[j * 3 + i]? = (eCells e)[i]?
  | [], _, _, _, h, _ => by simp at h
  | y :: t, 0, e, i, h, hi => by
    simp at h; subst h
    show (eCells y ++ rowsE t)[0 * 3 + i]? = _
    rw [Nat.zero_mul, Nat.zero_add, List.getElem?_append_left (by simp [eCells]; omega)]
  | y :: t, j + 1, e, i, h, hi => by
    show (eCells y ++ rowsE t)[(j + 1) * 3 + i]? = _
    rw [List.getElem?_append_right (by simp [eCells]; omega)]
    have : (j + 1) * 3 + i - (eCells y).length = j * 3 + i := by simp [eCells]; omega
    rw [this]
    exact rowsE_get (by simpa using h) hi
theorem row_C {w : World} {base : Nat} {v : Value} {L : Es} (h : w.ownsRow base 33 3 v L.length (rowsE L)) (hl : L.length ≤ 1000) : ∃ A c, v = .slice A (ents3 L).length c ∧ (ents3 L).length ≤ c ∧ Kd.C k33 w A (ents3 L).length (ents3 L) := by
  have hlen : (ents3 L).length = L.length := by simp [ents3]
  rw [hlen]
  rcases h.2 with ⟨rfl, h0⟩ | ⟨g, cap, cur, rfl, hb, hh, hc, hm, hs, ht⟩
  · rw [h0]
    exact ⟨none, 0, rfl, Nat.le_refl _, hlen.trans h0, by omega, fun hp => by omega⟩
  · refine ⟨some ⟨g, 0, none⟩, cap, rfl, hc, hlen, by omega, fun hp => ⟨_, rfl, fun j p hj => ?_⟩⟩
    simp only [ents3, List.getElem?_map] at hj
    cases hL : L[j]? with
    | none => rw [hL] at hj; cases hj
    | some e =>
      rw [hL] at hj
      simp at hj
      subst hj
      refine ⟨eCells e, rfl, k33_mk w (entS e), fun i u hu => ?_⟩
      have hi : i < 3 := by
        have := (List.getElem?_eq_some_iff.1 hu).1
        simpa [eCells] using this
      exact h.cells (g := g) rfl (j * 3 + i) u (by rw [rowsE_get hL hi]; exact hu)
end Go.Proofs.Ytjffikckddijmaa
namespace Go.Proofs.Ytjffikckddijmaa
open Go.RowKit Go.Proofs.YtjffikckddijmaaW.PrintWords Go.Proofs.YtjffikckddijmaaW.PrintLast Go.Proofs.YtjffikckddijmaaW.PrintMore
open All All.BM
attribute [local go_sem] max2_int min2_int max_two min_two max_three min_three max_four min_four
set_option linter.unusedVariables false
set_option linter.unusedSimpArgs false
attribute [local go_sem high] eqA31 eqA33
def Sta (w W : World) (g : Nat) (L : Es) (room : Nat) : Prop := ∃ a, TR W w.heap.size g a L room ∧ Below w.heap.size w W
def Kept (W W' : World) : Prop := W.heap.size ≤ W'.heap.size ∧ ∀ (k : Nat) (cs : Array Value), W.heap[k]? = some (Obj.cells cs 33 (0, 0)) → W'.heap[k]? = some (Obj.cells cs 33 (0, 0))
theorem Kept.trans {A B C : World} (h : Kept A B) (k : Kept B C) : Kept A C := ⟨Nat.le_trans h.1 k.1, fun i cs hi => k.2 i cs (h.2 i cs hi)⟩
theorem Kept.refl (A : World) : Kept A A := ⟨Nat.le_refl _, fun _ _ h => h⟩
theorem Kept.of_below {A B : World} (h : Below A.heap.size A B) : Kept A B := ⟨h.size, fun k cs hk => (h.block k (Array.getElem?_eq_some_iff.1 hk).1).trans hk⟩
theorem Kept.row {A B : World} (h : Kept A B) {base n : Nat} {v : Value} {xs : List Value} (hr : A.ownsRow base 33 3 v n xs) : B.ownsRow base 33 3 v n xs :=
  own_move hr fun k hk => by obtain ⟨cs, hc⟩ := own_typed hr k hk; rw [h.2 k cs hc, hc]
theorem Kept.cell {A B : World} (h : Kept A B) {k : Nat} {cs : Array Value} (hk : A.heap[k]? = some (.cells cs 33 (0, 0))) : B.heap[k]? = some (.cells cs 33 (0, 0)) := h.2 k cs hk
theorem Kept.drewN {A B : World} (h : Kept A B) (n : Nat) : Kept A (B.drewN n) := h
theorem TR.typed {w : World} {base g : Nat} {a : Option Nat} {L : Es} {room : Nat} (h : TR w base g a L room) : (∃ cs, w.heap[g]? = some (.cells cs 56 (0, 0))) ∧ ∀ k, a = some k → ∃ cs, w.heap[k]? = some (.cells cs 64 (0, 0)) := by
  obtain ⟨sl, s, t, fl, h1, h2, _⟩ := h
  exact ⟨⟨_, h1.blk⟩, fun k hk => own_typed h1.row k (h2.trans hk)⟩
theorem TR.kept {w w' : World} {base g : Nat} {a : Option Nat} {L : Es} {room : Nat} (h : TR w base g a L room) (hF : Fr w w' g a) : Kept w w' := by
  refine ⟨hF.size, fun k cs hk => (hF.block k (Array.getElem?_eq_some_iff.1 hk).1 ?_ ?_).trans hk⟩
  · rintro rfl
    obtain ⟨⟨c, hc⟩, _⟩ := h.typed
    rw [hc] at hk; simp at hk
  · intro e
    obtain ⟨c, hc⟩ := h.typed.2 k e.symm
    rw [hc] at hk; simp at hk
theorem Fr.belowN {w W W' : World} {g : Nat} {a : Option Nat} (hb : Below w.heap.size w W) (hF : Fr W W' g a) (hg : w.heap.size ≤ g) (ha : ∀ k, a = some k → w.heap.size ≤ k) : Below w.heap.size w W' :=
  hb.trans ⟨hF.os, hF.tape, hF.output, hF.size, fun k hk => hF.block k (Nat.lt_of_lt_of_le hk hb.size) (by omega) (fun e => by have := ha k e.symm; omega)⟩
theorem Sta.drewN {w W : World} {g : Nat} {L : Es} {room : Nat} (h : Sta w W g L room) (n : Nat) : Sta w (W.drewN n) g L room := by
  obtain ⟨a, ⟨sl, s, t, fl, h1, r⟩, hB⟩ := h
  exact ⟨a, ⟨sl, s, t, fl, h1.drewN n, r⟩, pw_below_drewN hB n⟩
theorem Sta.below {w W W' : World} {g : Nat} {L : Es} {room : Nat} (h : Sta w W g L room) (hb : Below W.heap.size W W') : Sta w W' g L room := by
  obtain ⟨a, h1, hB⟩ := h
  exact ⟨a, h1.below hb, below_step hB hb⟩
theorem Sta.alloc {w W : World} {g : Nat} {L : Es} {room : Nat} (h : Sta w W g L room) (o : Obj) : Sta w (W.alloc o) g L room := h.below ((Below.refl _ _).alloc (Nat.le_refl _) o)
theorem Sta.b {w W : World} {g : Nat} {L : Es} {room : Nat} (h : Sta w W g L room) : Below w.heap.size w W := h.choose_spec.2
theorem Sta.facts {w W : World} {g : Nat} {L : Es} {room : Nat} (h : Sta w W g L room) : Srt L ∧ nod L ≤ room ∧ room ≤ 1000 ∧ L.length ≤ nod L ∧ nod L ≤ 2 * L.length ∧ (L ≠ [] → nod L + 1 ≤ 2 * L.length) ∧ (∀ e ∈ L, e.1.length ≤ 32) := by
  obtain ⟨a, h1, hB⟩ := h
  exact h1.facts
theorem new_st {w W : World} (hb : Below w.heap.size w W) (n : Int) : Calls Try.prog 11 #[.int .i64 n] W fun e W' => e = .returned (.pointer (some ⟨W.heap.size, 0, none⟩)) ∧ Sta w W' W.heap.size [] (bd1000 n).toNat ∧ Below W.heap.size W W' :=
  (new_any n W).mono fun e W' ⟨he, hw⟩ => by
    subst hw
    exact ⟨he, ⟨none, new_tr n W w.heap.size hb.size, hb.alloc hb.size _⟩, (Below.refl _ _).alloc (Nat.le_refl _) _⟩
theorem TrOp.st {w W W' : World} {g : Nat} {a : Option Nat} {L L' : Es} {room : Nat} {v : Value} {e : Ending} (h : TR W w.heap.size g a L room) (hB : Below w.heap.size w W) (ho : TrOp W w.heap.size g a v L' room e W') : e = .returned v ∧ Sta w W' g L' room ∧ Kept W W' := by
  obtain ⟨a', he, hT, hF, hA⟩ := ho
  exact ⟨he, ⟨a', hT, Fr.belowN hB hF h.lt.2.1 fun k hk => (h.lt.2.2 k hk).2⟩, h.kept hF⟩
theorem put_st {w W : World} {g : Nat} {L : Es} {room : Nat} (h : Sta w W g L room) (pa pn v : Int) :
    Calls Try.prog 14 #[.pointer (some ⟨g, 0, none⟩), .agg #[.int .i64 pa, .int .i64 pn], .int .i64 v] W fun e W' => e = .returned (.int .i64 (putL L room pa pn v).1) ∧ Sta w W' g (putL L room pa pn v).2 room ∧ Kept W W' := by
  obtain ⟨a, h1, hB⟩ := h
  exact (put_tr h1 pa pn v).mono fun e W' ho => TrOp.st h1 hB ho
theorem find_st {w W : World} {g : Nat} {L : Es} {room : Nat} (h : Sta w W g L room) (x : Int) {r : Option (K × Int)} (hr : FindSpec (K32 x) L r) :
    Calls Try.prog 16 #[.pointer (some ⟨g, 0, none⟩), .int .i64 x] W fun e W' => e = .returned (.tuple #[.agg #[.int .i64 (bestA r), .int .i64 (bestN r), .int .i64 (bestV r)], .bool r.isSome]) ∧ Sta w W' g L room ∧ Below W.heap.size W W' := by
  obtain ⟨a, h1, hB⟩ := h
  obtain ⟨r', hr', hc⟩ := find_tr h1 x
  obtain rfl := hr.uniq h1.facts.1 hr'
  exact hc.mono fun e W' ⟨he, hb⟩ => ⟨he, ⟨a, h1.below hb, below_step hB hb⟩, hb⟩
theorem Sta.found {w W : World} {g : Nat} {L : Es} {room : Nat} (h : Sta w W g L room) (x : Int) : ∃ r, FindSpec (K32 x) L r := by
  obtain ⟨a, h1, hB⟩ := h
  obtain ⟨r', hr', _⟩ := find_tr h1 x
  exact ⟨r', hr'⟩
theorem nodes_st {w W : World} {g : Nat} {L : Es} {room : Nat} (h : Sta w W g L room) : Calls Try.prog 13 #[.pointer (some ⟨g, 0, none⟩)] W fun e W' => e = .returned (.int .i64 (nod L)) ∧ W = W' := by
  obtain ⟨a, h1, hB⟩ := h
  exact nodes_tr h1
theorem walk_st {w W : World} {g : Nat} {L : Es} {room : Nat} (h : Sta w W g L room) : Calls Try.prog 12 #[.pointer (some ⟨g, 0, none⟩)] W fun e W' => ∃ v, e = .returned v ∧ W'.ownsRow W.heap.size 33 3 v L.length (rowsE L) ∧ Sta w W' g L room ∧ Below W.heap.size W W' := by
  obtain ⟨a, h1, hB⟩ := h
  exact (walk_tr h1).mono fun e W' ⟨v, he, hr, hb⟩ => ⟨v, he, hr, ⟨a, h1.below hb, below_step hB hb⟩, hb⟩
def ex1 : Es := [(kOf 167772160 8, 1)]
def ex2 : Es := [(kOf 167772160 8, 1), (kOf 167837696 16, 2)]
def ex3 : Es := [(kOf 167772160 8, 1), (kOf 167837696 16, 2), (kOf 184549376 8, 3)]
theorem ex_1 : putL [] 4 167772160 8 1 = (0, ex1) := by decide +kernel
theorem ex_2 : putL ex1 4 167837696 16 2 = (0, ex2) := by decide +kernel
theorem ex_3 : putL ex2 4 184549376 8 3 = (0, ex3) := by decide +kernel
theorem ex_n2 : nod ex2 = 2 := by decide +kernel
theorem ex_n3 : nod ex3 = 4 := by decide +kernel
theorem ex_f1 : FindSpec (K32 167838211) ex3 (some (kOf 167837696 16, 2)) := by
  show _ ∧ _ ∧ _
  decide +kernel
theorem ex_f2 : FindSpec (K32 167903232) ex3 (some (kOf 167772160 8, 1)) := by
  show _ ∧ _ ∧ _
  decide +kernel
set_option maxHeartbeats 2000000 in
set_option maxRecDepth 100000 in
theorem awake_calls (w : World) : Calls Try.prog 10 #[] w fun e w' => e = .returned (.bool true) ∧ Below w.heap.size w w' := by
  go_enter Try.func10, Try.ntmps10
  go_wp2_with (first
    | (go_at_call 11; refine (new_st (w := w) (Below.refl _ _) 4).mono ?_; rintro e w1 ⟨rfl, h0, -⟩; have h1 := put_st h0 167772160 8 1; rw [show (bd1000 4).toNat = 4 from rfl, ex_1] at h1; clear h0)
    | (go_at_call 14; refine h1.mono ?_; rintro e w2 ⟨rfl, hs, -⟩; have h2 := put_st hs 167837696 16 2; rw [ex_2] at h2; clear h1 hs)
    | (go_at_call 14; refine h2.mono ?_; rintro e w3 ⟨rfl, hs, -⟩; have hn := nodes_st hs; rw [ex_n2] at hn; have h3 := put_st hs 184549376 8 3; rw [ex_3] at h3; clear h2 hs)
    | (go_at_call 13; refine hn.mono ?_; clear hn; rintro e w4 ⟨rfl, rfl⟩)
    | (go_at_call 14; refine h3.mono ?_; rintro e w5 ⟨rfl, hs, -⟩; have h4 := find_st hs 167838211 ex_f1; simp only [bestV, Option.isSome] at h4; clear h3 hs)
    | (go_at_call 16; refine h4.mono ?_; rintro e w6 ⟨rfl, hs, -⟩; have HS := Aside0.mk (Sta.alloc hs); have h5 := fun o => find_st (HS.out o) 167903232 ex_f2; simp only [bestV, Option.isSome] at h5; clear h4 hs)
    | (go_at_call 16; refine (h5 _).mono ?_; rintro e w7 ⟨rfl, hs, hb7⟩; have b0 : w7.cell? ⟨w6.heap.size, 2, none⟩ = some (.int .i64 2) := pw_cell_below hb7 (by go_simp); have hz := World.block_lt_of_cell? w7 _ b0; have hn := fun o => nodes_st (hs.alloc o); rw [ex_n3] at hn; have HS := Aside0.mk hs; clear h5 hs hb7)
    | (go_at_call 13; refine (hn _).mono ?_; rintro e w8 ⟨rfl, rfl⟩))
  go_ret
  exact ⟨rfl, (HS.out.alloc _).b⟩
end Go.Proofs.Ytjffikckddijmaa
