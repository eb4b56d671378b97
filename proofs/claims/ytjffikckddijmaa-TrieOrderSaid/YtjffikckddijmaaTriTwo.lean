/-
  Chapter 7: two tries beside each other; what TrieOrder leans on.
-/
import Derived.Test.YtjffikckddijmaaTriJ
namespace Go.Proofs.Ytjffikckddijmaa
open Go.RowKit Go.Proofs.YtjffikckddijmaaW.PrintWords Go.Proofs.YtjffikckddijmaaW.PrintLast Go.Proofs.YtjffikckddijmaaW.PrintMore
open All All.BM
set_option linter.unusedVariables false
set_option linter.unusedSimpArgs false
theorem kOf_inj {a n b m : Int} (h1 : isPre a n) (h2 : isPre b m) (h : kOf a n = kOf b m) : a = b ∧ n = m := by
  obtain ⟨_, e1, e2⟩ := kOf_spec h1
  obtain ⟨_, e3, e4⟩ := kOf_spec h2
  exact ⟨e1.trans (by rw [h]; exact e3.symm), e2.trans (by rw [h]; exact e4.symm)⟩
def eqP (x y : S31) : Bool := x.f0 == y.f0 && (x.f1 == y.f1)
theorem eqP_kOf {x y : S31} (h : eqP x y = false) (hx : isPre x.f0 x.f1) (hy : isPre y.f0 y.f1) : kOf x.f0 x.f1 ≠ kOf y.f0 y.f1 := by
  intro e
  obtain ⟨h1, h2⟩ := kOf_inj hx hy e
  simp [eqP, h1, h2] at h
def puts (L : Es) (l : List S33) : Es := l.foldl (put1 1000) L
def cut1 (L : Es) (x : S31) : Es := (cutL L x.f0 x.f1).2
def cuts (L : Es) (l : List S31) : Es := l.foldl cut1 L
def one1 (x : S31) : S33 := ⟨x, 1⟩
theorem puts_facts : ∀ (l : List S33) (L : Es), Srt L → Srt (puts L l) ∧ (puts L l).length ≤ L.length + l.length
  | [], L, h => ⟨h, by simp [puts]⟩
  | e :: l, L, h => by
    obtain ⟨h1, h2⟩ := puts_facts l (put1 1000 L e) (srt_putL h _ _ _ _)
    have h3 : (put1 1000 L e).length ≤ L.length + 1 := putL_length L 1000 e.f0.f0 e.f0.f1 e.f1
    refine ⟨h1, ?_⟩
    have h2' : (puts L (e :: l)).length ≤ (put1 1000 L e).length + l.length := h2
    simp only [List.length_cons]
    omega
theorem put1_ok {L : Es} (h : Srt L) (hl : L.length ≤ 400) (e : S33) : put1 1000 L e = if isPre e.f0.f0 e.f0.f1 then insL L (kOf e.f0.f0 e.f0.f1) e.f1 else L := by
  unfold put1
  split
  · rename_i hp; rw [putL_ok h hl hp]
  · rename_i hp; rw [putL_bad hp]
theorem mem_puts : ∀ (l : List S33) (L : Es), Srt L → L.length + l.length ≤ 300 → l.Pairwise (fun a b => eqP a.f0 b.f0 = false) → ∀ k u,
    ((k, u) ∈ puts L l ↔ (∃ e ∈ l, isPre e.f0.f0 e.f0.f1 ∧ kOf e.f0.f0 e.f0.f1 = k ∧ e.f1 = u) ∨ ((∀ e ∈ l, isPre e.f0.f0 e.f0.f1 → kOf e.f0.f0 e.f0.f1 ≠ k) ∧ (k, u) ∈ L))
  | [], L, _, _, _, k, u => by simp [puts]
  | e :: l, L, h, hl, hd, k, u => by
    simp only [List.length_cons] at hl
    obtain ⟨hd1, hd2⟩ := List.pairwise_cons.1 hd
    have hlen : (put1 1000 L e).length ≤ L.length + 1 := putL_length L 1000 e.f0.f0 e.f0.f1 e.f1
    have ih := mem_puts l (put1 1000 L e) (srt_putL h _ _ _ _) (by omega) hd2 k u
    show (k, u) ∈ puts (put1 1000 L e) l ↔ _
    rw [ih, put1_ok h (by omega)]
    by_cases hp : isPre e.f0.f0 e.f0.f1
    · rw [if_pos hp, mem_insL h]
      constructor
      · rintro (⟨f, hf, h1⟩ | ⟨h1, ⟨rfl, rfl⟩ | ⟨hne, h2⟩⟩)
        · exact .inl ⟨f, List.mem_cons_of_mem _ hf, h1⟩
        · exact .inl ⟨e, List.mem_cons_self, hp, rfl, rfl⟩
        · refine .inr ⟨fun f hf hfp => ?_, h2⟩
          rcases List.mem_cons.1 hf with rfl | hf
          · exact Ne.symm hne
          · exact h1 f hf hfp
      · rintro (⟨f, hf, h1, h2, h3⟩ | ⟨h1, h2⟩)
        · rcases List.mem_cons.1 hf with rfl | hf
          · refine .inr ⟨fun g hg hgp => ?_, .inl ⟨h2.symm, h3.symm⟩⟩
            rw [← h2]
            exact Ne.symm (eqP_kOf (hd1 g hg) hp hgp)
          · exact .inl ⟨f, hf, h1, h2, h3⟩
        · exact .inr ⟨fun g hg => h1 g (List.mem_cons_of_mem _ hg), .inr ⟨Ne.symm (h1 e List.mem_cons_self hp), h2⟩⟩
    · rw [if_neg hp]
      constructor
      · rintro (⟨f, hf, h1⟩ | ⟨h1, h2⟩)
        · exact .inl ⟨f, List.mem_cons_of_mem _ hf, h1⟩
        · refine .inr ⟨fun f hf hfp => ?_, h2⟩
          rcases List.mem_cons.1 hf with rfl | hf
          · exact absurd hfp hp
          · exact h1 f hf hfp
      · rintro (⟨f, hf, h1, h2⟩ | ⟨h1, h2⟩)
        · rcases List.mem_cons.1 hf with rfl | hf
          · exact absurd h1 hp
          · exact .inl ⟨f, hf, h1, h2⟩
        · exact .inr ⟨fun g hg => h1 g (List.mem_cons_of_mem _ hg), h2⟩
theorem ks_puts : ∀ (l : List S33) (L : Es), Srt L → ∀ k, k ∈ ks (puts L l) → k ∈ ks L ∨ ∃ e ∈ l, isPre e.f0.f0 e.f0.f1 ∧ kOf e.f0.f0 e.f0.f1 = k
  | [], L, _, k, h => .inl h
  | e :: l, L, hL, k, h => by
    rcases ks_puts l (put1 1000 L e) (srt_putL hL _ _ _ _) k h with h | ⟨f, hf, h⟩
    · have hk : k ∈ ks L ∨ (isPre e.f0.f0 e.f0.f1 ∧ kOf e.f0.f0 e.f0.f1 = k) := by
        unfold put1 putL at h
        split at h
        · rename_i hp
          split at h
          · rcases (ks_insL hL _ _ _).1 h with h | h
            · exact .inr ⟨hp, h.symm⟩
            · exact .inl h
          · exact .inl h
        · exact .inl h
      rcases hk with h | h
      · exact .inl h
      · exact .inr ⟨e, List.mem_cons_self, h⟩
    · exact .inr ⟨f, List.mem_cons_of_mem _ hf, h⟩
theorem srt_cutL {L : Es} (h : Srt L) (a n : Int) : Srt (cutL L a n).2 := by
  unfold cutL
  split
  · split
    · exact srt_delL h _
    · exact h
  · exact h
theorem mem_cuts : ∀ (o : List S31) (L : Es), Srt L → Srt (cuts L o) ∧ ∀ k u, ((k, u) ∈ cuts L o ↔ (k, u) ∈ L ∧ ∀ x ∈ o, isPre x.f0 x.f1 → kOf x.f0 x.f1 ≠ k)
  | [], L, h => ⟨h, fun k u => by simp [cuts]⟩
  | x :: o, L, h => by
    obtain ⟨h1, h2⟩ := mem_cuts o (cut1 L x) (srt_cutL h _ _)
    refine ⟨h1, fun k u => ?_⟩
    have hc : (k, u) ∈ cut1 L x ↔ (k, u) ∈ L ∧ (isPre x.f0 x.f1 → kOf x.f0 x.f1 ≠ k) := by
      unfold cut1 cutL
      by_cases hp : isPre x.f0 x.f1
      · rw [if_pos hp]
        by_cases hk : kOf x.f0 x.f1 ∈ ks L
        · rw [if_pos hk, mem_delL]
          exact ⟨fun ⟨a, b⟩ => ⟨a, fun _ => Ne.symm b⟩, fun ⟨a, b⟩ => ⟨a, Ne.symm (b hp)⟩⟩
        · rw [if_neg hk]
          refine ⟨fun a => ⟨a, fun _ e => ?_⟩, fun a => a.1⟩
          exact hk (mem_ks.2 ⟨u, by rw [e]; exact a⟩)
      · rw [if_neg hp]
        exact ⟨fun a => ⟨a, fun b => absurd b hp⟩, fun a => a.1⟩
    show (k, u) ∈ cuts (cut1 L x) o ↔ _
    rw [h2, hc]
    constructor
    · rintro ⟨⟨a, b⟩, c⟩
      refine ⟨a, fun y hy => ?_⟩
      rcases List.mem_cons.1 hy with rfl | hy
      · exact b
      · exact c y hy
    · rintro ⟨a, b⟩
      exact ⟨⟨a, b x List.mem_cons_self⟩, fun y hy => b y (List.mem_cons_of_mem _ hy)⟩
theorem order_eq {l : List S33} {o : List S31} (hl : l.length ≤ 30) (ho : o.length ≤ 30) (hd : l.Pairwise (fun a b => eqP a.f0 b.f0 = false)) (hx : ∀ e ∈ l, ∀ x ∈ o, eqP e.f0 x = false) :
    cuts (puts (puts [] (o.map one1)) l.reverse) o = puts [] l := by
  have hs0 : Srt ([] : Es) := List.Pairwise.nil
  have h0 := puts_facts (o.map one1) [] hs0
  simp only [List.length_nil, List.length_map, Nat.zero_add] at h0
  have hrev : l.reverse.Pairwise (fun a b => eqP a.f0 b.f0 = false) := by
    rw [List.pairwise_reverse]
    refine hd.imp fun {a b} h => ?_
    rw [eqP] at h ⊢
    rw [Bool.and_eq_false_iff] at h ⊢
    rcases h with h | h
    · left; simp at h ⊢; exact fun e => h e.symm
    · right; simp at h ⊢; exact fun e => h e.symm
  have h1 := puts_facts l.reverse (puts [] (o.map one1)) h0.1
  obtain ⟨h2, h3⟩ := mem_cuts o _ h1.1
  refine Srt.ext h2 (puts_facts l [] hs0).1 fun ⟨k, u⟩ => ?_
  rw [h3, mem_puts l.reverse _ h0.1 (by rw [List.length_reverse]; omega) hrev, mem_puts l [] hs0 (by simp; omega) hd]
  constructor
  · rintro ⟨⟨e, he, h4⟩ | ⟨_, h4⟩, h5⟩
    · exact .inl ⟨e, List.mem_reverse.1 he, h4⟩
    · exfalso
      rcases ks_puts (o.map one1) [] hs0 k (mem_ks.2 ⟨u, h4⟩) with h | ⟨e, he, h6, h7⟩
      · cases h
      · obtain ⟨x, hx', rfl⟩ := List.mem_map.1 he
        exact h5 x hx' h6 h7
  · rintro (⟨e, he, h4, h5, h6⟩ | ⟨_, h4⟩)
    · refine ⟨.inl ⟨e, List.mem_reverse.2 he, h4, h5, h6⟩, fun x hx' hp => ?_⟩
      rw [← h5]
      exact Ne.symm (eqP_kOf (hx e he x hx') h4 hp)
    · cases h4
/-! ### Two tries -/
def Two (w W : World) (gt gu : Nat) (T U : Es) : Prop := ∃ a b, TR W w.heap.size gt a T 1000 ∧ TR W w.heap.size gu b U 1000 ∧ gt ≠ gu ∧ some gt ≠ b ∧ some gu ≠ a ∧ (∀ k, a = some k → b ≠ some k) ∧ Below w.heap.size w W
theorem Two.swap {w W : World} {gt gu : Nat} {T U : Es} (h : Two w W gt gu T U) : Two w W gu gt U T := by
  obtain ⟨a, b, h1, h2, h3, h4, h5, h6, h7⟩ := h
  exact ⟨b, a, h2, h1, Ne.symm h3, h5, h4, fun k hk hk' => h6 k hk' hk, h7⟩
theorem Two.below {w W W' : World} {gt gu : Nat} {T U : Es} (h : Two w W gt gu T U) (hb : Below W.heap.size W W') : Two w W' gt gu T U := by
  obtain ⟨a, b, h1, h2, h3, h4, h5, h6, h7⟩ := h
  exact ⟨a, b, h1.below hb, h2.below hb, h3, h4, h5, h6, below_step h7 hb⟩
theorem Two.drewN {w W : World} {gt gu : Nat} {T U : Es} (h : Two w W gt gu T U) (n : Nat) : Two w (W.drewN n) gt gu T U := by
  refine h.below ?_
  exact pw_below_drewN (Below.refl _ _) n
theorem Two.b {w W : World} {gt gu : Nat} {T U : Es} (h : Two w W gt gu T U) : Below w.heap.size w W := by
  obtain ⟨a, b, h1, h2, h3, h4, h5, h6, h7⟩ := h
  exact h7
theorem Two.t {w W : World} {gt gu : Nat} {T U : Es} (h : Two w W gt gu T U) : Sta w W gt T 1000 := by
  obtain ⟨a, b, h1, h2, h3, h4, h5, h6, h7⟩ := h
  exact ⟨a, h1, h7⟩
theorem Two.u {w W : World} {gt gu : Nat} {T U : Es} (h : Two w W gt gu T U) : Sta w W gu U 1000 := h.swap.t
theorem Two.op {w W : World} {gt gu : Nat} {T U U' : Es} (h : Two w W gt gu T U) {n : Nat} {args : Array Value} {v : Value} (hc : ∀ b, TR W w.heap.size gu b U 1000 → Calls Try.prog n args W (TrOp W w.heap.size gu b v U' 1000)) :
    Calls Try.prog n args W fun e W' => e = .returned v ∧ Two w W' gt gu T U' := by
  obtain ⟨a, b, h1, h2, h3, h4, h5, h6, h7⟩ := h
  refine (hc b h2).mono fun e W' ho => ?_
  obtain ⟨b', he, hT, hF, hA⟩ := ho
  refine ⟨he, a, b', h1.keep hF h3 h4 (fun k hk => ⟨fun e => h5 (by rw [hk, e]), fun e => h6 k hk e.symm⟩), hT, h3, ?_, h5, ?_, Fr.belowN h7 hF h2.lt.2.1 fun k hk => (h2.lt.2.2 k hk).2⟩
  · rcases hA with rfl | ⟨k, rfl, hk⟩
    · exact h4
    · intro e
      have := h1.lt.1
      injection e with e
      omega
  · intro k hk
    rcases hA with rfl | ⟨k', rfl, hk'⟩
    · exact h6 k hk
    · intro e
      have := (h1.lt.2.2 k hk).1
      injection e with e
      omega
theorem Two.putU {w W : World} {gt gu : Nat} {T U : Es} (h : Two w W gt gu T U) (x : S33) : Calls Try.prog 14 #[.pointer (some ⟨gu, 0, none⟩), .agg #[.int .i64 x.f0.f0, .int .i64 x.f0.f1], .int .i64 x.f1] W fun e W' => (∃ c, e = .returned (.int .i64 c)) ∧ Two w W' gt gu T (put1 1000 U x) :=
  (h.op (U' := put1 1000 U x) fun b hb => put_tr hb x.f0.f0 x.f0.f1 x.f1).mono fun e W' ⟨he, hT⟩ => ⟨⟨_, he⟩, hT⟩
theorem Two.putT {w W : World} {gt gu : Nat} {T U : Es} (h : Two w W gt gu T U) (x : S33) : Calls Try.prog 14 #[.pointer (some ⟨gt, 0, none⟩), .agg #[.int .i64 x.f0.f0, .int .i64 x.f0.f1], .int .i64 x.f1] W fun e W' => (∃ c, e = .returned (.int .i64 c)) ∧ Two w W' gt gu (put1 1000 T x) U :=
  (h.swap.putU x).mono fun e W' ⟨he, hT⟩ => ⟨he, hT.swap⟩
theorem Two.cutU {w W : World} {gt gu : Nat} {T U : Es} (h : Two w W gt gu T U) (x : S31) : Calls Try.prog 17 #[.pointer (some ⟨gu, 0, none⟩), .agg #[.int .i64 x.f0, .int .i64 x.f1]] W fun e W' => (∃ c, e = .returned (.int .i64 c)) ∧ Two w W' gt gu T (cut1 U x) :=
  (h.op (U' := cut1 U x) fun b hb => cut_tr hb x.f0 x.f1).mono fun e W' ⟨he, hT⟩ => ⟨⟨_, he⟩, hT⟩
theorem Sta.two {w W : World} {gt : Nat} {T : Es} (h : Sta w W gt T 1000) : Calls Try.prog 11 #[.int .i64 1000] W fun e W' => e = .returned (.pointer (some ⟨W.heap.size, 0, none⟩)) ∧ Two w W' gt W.heap.size T [] := by
  obtain ⟨a, h1, hB⟩ := h
  refine (new_any 1000 W).mono fun e W' ⟨he, hw⟩ => ?_
  subst hw
  have hb := (Below.refl W.heap.size W).alloc (Nat.le_refl _) (Obj.cells #[.slice none 0 0, .int .i64 (-1), .int .i64 (-1), .int .i64 0, .int .i64 (bd1000 1000)] 56)
  refine ⟨he, a, none, h1.below hb, new_tr 1000 W w.heap.size hB.size, ?_, by simp, ?_, by simp, below_step hB hb⟩
  · have := h1.lt.1; omega
  · intro e
    have := (h1.lt.2.2 _ e.symm).1
    omega
end Go.Proofs.Ytjffikckddijmaa
