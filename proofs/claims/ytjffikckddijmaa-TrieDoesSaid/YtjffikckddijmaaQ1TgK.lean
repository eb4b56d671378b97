/-
  Chapter 7: heal, by the tree that the array holds.
-/
import Derived.Test.YtjffikckddijmaaQ1TgR
namespace Go.Proofs.Ytjffikckddijmaa
set_option linter.unusedVariables false
set_option linter.unusedSimpArgs false
theorem repl_id {p : K} : ∀ t : T, T.repl p (fun x => x) t = t
  | .nil => rfl
  | .nd i q s l r => by
    cases hs : stop q p
    · rw [repl_step hs]
      cases hb : bitOf p q.length <;> simp only [Bool.false_eq_true, ↓reduceIte] <;> rw [repl_id]
    · rw [repl_stop hs]
theorem repl_idx_rm (p : K) (f : T → T) (E : List Nat) : ∀ t : T, List.Perm (T.sub p t).idx ((f (T.sub p t)).idx ++ E) → List.Perm t.idx ((T.repl p f t).idx ++ E)
  | .nil, h => h
  | .nd i q s l r, h => by
    cases hs : stop q p
    · rw [sub_step hs] at h
      rw [repl_step hs]
      cases hb : bitOf p q.length <;> simp only [hb, Bool.false_eq_true, ↓reduceIte] at h ⊢
      · have := repl_idx_rm p f E l h
        simp only [T.idx, List.cons_append, List.append_assoc]
        refine List.Perm.cons i ((this.append_right r.idx).trans ?_)
        rw [List.append_assoc]
        exact List.perm_append_comm.append_left _
      · have := repl_idx_rm p f E r h
        simp only [T.idx, List.cons_append, List.append_assoc]
        exact (this.append_left l.idx).cons i
    · rw [sub_stop hs] at h
      rw [repl_stop hs]
      exact h
theorem sub_nodup {p : K} : ∀ {t : T}, t.idx.Nodup → (T.sub p t).idx.Nodup
  | .nil, h => h
  | .nd i q s l r, h => by
    have h' := h
    simp only [T.idx, List.nodup_cons, List.mem_append, not_or, List.nodup_append] at h'
    obtain ⟨_, h3, h4, _⟩ := h'
    cases hs : stop q p
    · rw [sub_step hs]
      cases bitOf p q.length
      · exact sub_nodup h3
      · exact sub_nodup h4
    · rw [sub_stop hs]; exact h
theorem put_drop (s : St) {pl : Option (Nat × Bool)} {m : Nat} (k : Int) (h : ∀ i b, pl = some (i, b) → i ≠ m) : (s.put pl k).drop m = (s.drop m).put pl k := by
  rcases pl with _ | ⟨i, b⟩
  · rfl
  · have hne := h i b rfl
    show ({ s with ns := (s.ns.set i ((s.ns.getD i Nd.zero).kid b k)).set m ⟨0, 0, s.free, -1, false, 0⟩, free := (m : Int), used := s.used - 1 } : St) = { s with ns := (s.ns.set m ⟨0, 0, s.free, -1, false, 0⟩).set i (((s.ns.set m ⟨0, 0, s.free, -1, false, 0⟩).getD i Nd.zero).kid b k), free := (m : Int), used := s.used - 1 }
    have e : (s.ns.set m ⟨0, 0, s.free, -1, false, 0⟩).getD i Nd.zero = s.ns.getD i Nd.zero := by
      rw [List.getD_eq_getElem?_getD, List.getD_eq_getElem?_getD, List.getElem?_set_ne (Ne.symm hne)]
    rw [e, List.set_comm _ _ (Ne.symm hne)]
theorem rootOf_ne {ns : List Nd} {at_ : Int} {t : T} (h : Holds ns at_ t) : (at_ = -1 ↔ t = .nil) := by
  cases t with
  | nil => exact ⟨fun _ => rfl, fun _ => h⟩
  | nd i q s l r =>
    have := h.1
    constructor
    · intro e; omega
    · intro e; cases e
theorem Rep0.heal {s : St} {t : T} {fl : List Nat} (h : Rep0 s t fl) {p : K} {m : Nat} {q : K} {l r c : T} (hs : T.sub p t = .nd m q none l r) (hc : T.hl (.nd m q none l r) = c) (hidx : List.Perm (T.nd m q none l r).idx (c.idx ++ [m]))
    {k : Int} (hk : Holds s.ns k c) (hkeys : ∀ x ∈ c.keys, x ∈ (T.nd m q none l r).keys) : Rep0 ((s.put (plc p t) k).drop m) (T.repl p T.hl t) (m :: fl) := by
  have hsub : T.hl (T.sub p t) = c := by rw [hs, hc]
  have hm : m ∈ (T.sub p t).idx := by rw [hs]; simp [T.idx]
  have hn := h.nodup
  have hpl : ∀ i b, plc p t = some (i, b) → i ≠ m := fun i b e e2 => (plc_mem hn e).2 (e2 ▸ hm)
  have hperm : List.Perm t.idx ((T.repl p T.hl t).idx ++ [m]) := repl_idx_rm p T.hl [m] t (by rw [hsub, hs]; exact hidx)
  have hnd2 := (hperm.nodup_iff.1 hn)
  have hmc : ∀ x ∈ c.idx, x ≠ m := by
    have h1 : (c.idx ++ [m]).Nodup := by
      refine hidx.nodup_iff.1 ?_
      rw [← hs]
      exact sub_nodup hn
    intro x hx e
    exact (List.nodup_append.1 h1).2.2 x hx m (by simp) e
  rw [put_drop s k hpl]
  refine h.step p T.hl rfl (fun x hx hx2 => ?_) ?_ (fun i b e hi => ?_) (h.pool.drop hperm) (fun i b e => ?_) ?_ (fun x hx => ?_)
  · exact List.getElem?_set_ne (fun (e : m = x) => hx2 (e ▸ hm))
  · rw [hsub]
    exact hk.congr fun x hx => List.getElem?_set_ne (fun (e : m = x) => hmc x hx e.symm)
  · rw [hsub] at hi
    have : i ∈ (T.sub p t).idx := by rw [hs]; exact hidx.mem_iff.2 (List.mem_append_left _ hi)
    exact (plc_mem hn e).2 this
  · rcases List.mem_append.1 (hperm.mem_iff.1 (plc_mem hn e).1) with h1 | h1
    · exact h1
    · simp at h1; exact absurd h1 (hpl i b e)
  · have h1 := hperm.length_eq
    rw [T.size_idx, List.length_append, T.size_idx] at h1
    simp at h1
    show s.used - 1 = _
    rw [h.used, h1]
    push_cast; omega
  · rcases keys_repl (p := p) (f := T.hl) (t := t) (by rw [hsub, hs]; exact fun y hy => .inl (hkeys y hy)) x hx with h1 | h1
    · exact h.short x h1
    · exact h1
theorem heal_any {w : World} {base g : Nat} {sl : Value} {s : St} (h : TM w base g sl s) {t : T} {fl : List Nat} (hR : Rep0 s t fl) {p : K} {m : Nat} {q : K} {sv : Option Int} {l r : T} (hs : T.sub p t = .nd m q sv l r)
    (hu1 : s.used ≤ 1000) (hpl : ∃ b o, Plc w base g sl s (plc p t) (sideOf (plc p t)) b o) :
    ∃ s' fl', Rep0 s' (T.repl p T.hl t) fl' ∧ s'.room = s.room ∧ Calls Try.prog 33 #[.pointer (some ⟨g, 0, none⟩), .int .i64 (parOf (plc p t)), .int .i64 (sideOf (plc p t)), .int .i64 m] w (Did w base g sl (.tuple #[]) s') := by
  obtain ⟨x, hx, hnd, hl, hr, hm⟩ := hR.subNode hs
  have hu0 : 0 ≤ s.used := by rw [hR.used]; omega
  obtain ⟨b, o, P⟩ := hpl
  have h0 := rootOf_ne hl
  have h1 := rootOf_ne hr
  rcases T.hl_cases m q sv l r with ⟨e, hk⟩ | ⟨rfl, rfl, e⟩ | ⟨rfl, rfl, hne, e⟩
  · refine ⟨s, fl, ?_, rfl, heal_stay h hx ?_ _ _⟩
    · rw [repl_congr (g := fun x => x) (by rw [hs, e]), repl_id]
      exact hR
    · cases sv with
      | some v => left; rw [hnd.b]; rfl
      | none =>
        right
        have hk := hk rfl
        exact ⟨hnd.b, by simpa [h0] using hk.1, by simpa [h1] using hk.2⟩
  · refine ⟨(s.put (plc p t) x.k1).drop m, m :: fl, hR.heal hs e ?_ hr (fun y hy => by simp [T.keys, hy]), ?_, heal_go h hx hnd.b (.inr ⟨h0.2 rfl, rfl⟩) P hu0 hu1⟩
    · simp only [T.idx, List.nil_append]
      exact (List.perm_append_singleton m r.idx).symm
    · cases plc p t <;> rfl
  · refine ⟨(s.put (plc p t) x.k0).drop m, m :: fl, hR.heal hs e ?_ hl (fun y hy => by simp [T.keys, hy]), ?_, heal_go h hx hnd.b (.inl ⟨fun e => hne (h0.1 e), h1.2 rfl, rfl⟩) P hu0 hu1⟩
    · simp only [T.idx, List.append_nil]
      exact (List.perm_append_singleton m l.idx).symm
    · cases plc p t <;> rfl
end Go.Proofs.Ytjffikckddijmaa
namespace Go.Proofs.Ytjffikckddijmaa
set_option linter.unusedVariables false
set_option linter.unusedSimpArgs false
theorem sub_repl {p : K} {m : Nat} {q : K} {s s' : Option Int} {l r l' r' : T} : ∀ {t : T}, T.sub p t = .nd m q s l r →
    T.sub p (T.repl p (fun _ => .nd m q s' l' r') t) = .nd m q s' l' r' ∧ plc p (T.repl p (fun _ => .nd m q s' l' r') t) = plc p t ∧ ∀ g : T → T, T.repl p g (T.repl p (fun _ => .nd m q s' l' r') t) = T.repl p (fun _ => g (.nd m q s' l' r')) t
  | .nil, h => by cases h
  | .nd i q0 s0 l0 r0, h => by
    cases hs : stop q0 p
    · rw [sub_step hs] at h
      rw [repl_step hs, plc_step hs]
      cases hb : bitOf p q0.length <;> simp only [hb, Bool.false_eq_true, ↓reduceIte] at h ⊢
      · obtain ⟨h1, h2, h3⟩ := sub_repl (s' := s') (l' := l') (r' := r') h
        rw [sub_step hs, plc_step hs, hb]
        simp only [Bool.false_eq_true, ↓reduceIte]
        refine ⟨h1, by rw [h2], fun g => ?_⟩
        rw [repl_step hs, repl_step hs, hb]
        simp only [Bool.false_eq_true, ↓reduceIte]
        rw [h3]
      · obtain ⟨h1, h2, h3⟩ := sub_repl (s' := s') (l' := l') (r' := r') h
        rw [sub_step hs, plc_step hs, hb]
        simp only [↓reduceIte]
        refine ⟨h1, by rw [h2], fun g => ?_⟩
        rw [repl_step hs, repl_step hs, hb]
        simp only [↓reduceIte]
        rw [h3]
    · rw [sub_stop hs] at h
      cases h
      rw [repl_stop hs, plc_stop hs, plc_stop hs, sub_stop hs]
      exact ⟨rfl, rfl, fun g => by rw [repl_stop hs, repl_stop hs]⟩
theorem par_plc {p : K} : ∀ {t : T}, plc p t = none ↔ T.par p t = none
  | .nil => by simp [plc, T.par]
  | .nd i q s l r => by
    cases hs : stop q p
    · rw [plc_step hs]
      simp only [T.par, hs, Bool.false_eq_true, ↓reduceIte]
      cases hb : bitOf p q.length <;> simp
    · rw [plc_stop hs]
      simp [T.par, hs]
theorem par_sub {p : K} : ∀ {t : T}, t.WF → ∀ {i : Nat} {b : Bool}, plc p t = some (i, b) → ∃ k, T.par p t = some k ∧ ∀ f, ∃ s' l' r', T.sub k (T.repl p f t) = .nd i k s' l' r'
  | .nil, _, _, _, h => by simp [plc] at h
  | .nd m q s l r, ⟨h1, h2, h3, h4, h5⟩, i, b, h => by
    cases hs : stop q p
    · rw [plc_step hs] at h
      rw [T.par, if_neg (by rw [hs]; simp)]
      cases hb : bitOf p q.length <;> simp only [hb, Bool.false_eq_true, ↓reduceIte] at h ⊢
      · cases hp : plc p l with
        | none =>
          rw [hp] at h; cases h
          rw [par_plc.1 hp]
          refine ⟨q, rfl, fun f => ?_⟩
          rw [repl_step hs, hb]
          simp only [Bool.false_eq_true, ↓reduceIte]
          exact ⟨_, _, _, sub_stop (stop_self q)⟩
        | some y =>
          rw [hp] at h; cases h
          obtain ⟨k, e1, e2⟩ := par_sub h4 hp
          rw [e1]
          refine ⟨k, rfl, fun f => ?_⟩
          obtain ⟨s', l', r', e3⟩ := e2 f
          obtain ⟨hk1, hk2⟩ := stop_under (h2 _ (T.par_key e1))
          rw [repl_step hs, hb]
          simp only [Bool.false_eq_true, ↓reduceIte]
          rw [sub_step hk1, hk2]
          exact ⟨s', l', r', e3⟩
      · cases hp : plc p r with
        | none =>
          rw [hp] at h; cases h
          rw [par_plc.1 hp]
          refine ⟨q, rfl, fun f => ?_⟩
          rw [repl_step hs, hb]
          simp only [↓reduceIte]
          exact ⟨_, _, _, sub_stop (stop_self q)⟩
        | some y =>
          rw [hp] at h; cases h
          obtain ⟨k, e1, e2⟩ := par_sub h5 hp
          rw [e1]
          refine ⟨k, rfl, fun f => ?_⟩
          obtain ⟨s', l', r', e3⟩ := e2 f
          obtain ⟨hk1, hk2⟩ := stop_under (h3 _ (T.par_key e1))
          rw [repl_step hs, hb]
          simp only [↓reduceIte]
          rw [sub_step hk1, hk2]
          exact ⟨s', l', r', e3⟩
    · rw [plc_stop hs] at h; cases h
theorem cut_tree {p : K} {t : T} (hw : t.WF) {m : Nat} {v : Int} {l r : T} (hs : T.sub p t = .nd m p (some v) l r) :
    (plc p t = none → T.del p t = T.repl p T.hl (T.repl p (fun _ => .nd m p none l r) t)) ∧
    (∀ k, T.par p t = some k → T.del p t = T.repl k T.hl (T.repl p T.hl (T.repl p (fun _ => .nd m p none l r) t))) := by
  have e : T.repl p T.hl (T.repl p (fun _ => .nd m p none l r) t) = T.repl p (fun x => T.hl (T.unmark x)) t := by
    rw [(sub_repl hs).2.2]
    exact repl_congr (by rw [hs]; rfl)
  refine ⟨fun hp => ?_, fun k hk => ?_⟩
  · rw [e, (T.del_code hw).1 (par_plc.1 hp), (plc_none hp).2]
    rw [(plc_none hp).1] at hs
    rw [hs]
  · rw [e, ← (T.del_code hw).2 k hk (by rw [hs]; simp)]
end Go.Proofs.Ytjffikckddijmaa
