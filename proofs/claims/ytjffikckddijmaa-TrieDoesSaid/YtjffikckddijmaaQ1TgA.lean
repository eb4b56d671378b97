/-
  Chapter 7, plain mathematics: compressed binary tries over bit lists; what stands in them in order; how many nodes they have.
-/
import Derived.WalkKit
set_option linter.unusedVariables false
set_option linter.unusedSimpArgs false
namespace Go.Proofs.Ytjffikckddijmaa
abbrev K := List Bool
def lcp : K → K → K
  | a :: x, b :: y => if a = b then a :: lcp x y else []
  | _, _ => []
theorem lcp_left : ∀ x y : K, lcp x y <+: x
  | [], _ => by simp [lcp]
  | _ :: _, [] => by simp [lcp]
  | a :: x, b :: y => by
    unfold lcp
    split
    · exact (List.prefix_cons_inj a).2 (lcp_left x y)
    · exact List.nil_prefix
theorem lcp_comm : ∀ x y : K, lcp x y = lcp y x
  | [], [] => rfl
  | [], _ :: _ => rfl
  | _ :: _, [] => rfl
  | a :: x, b :: y => by
    unfold lcp
    by_cases h : a = b
    · subst h; simp [lcp_comm x y]
    · rw [if_neg h, if_neg (Ne.symm h)]
theorem lcp_right (x y : K) : lcp x y <+: y := by rw [lcp_comm]; exact lcp_left y x
theorem lcp_great : ∀ {b x y : K}, b <+: x → b <+: y → b <+: lcp x y
  | [], _, _, _, _ => List.nil_prefix
  | c :: b, x, y, hx, hy => by
    obtain ⟨x', rfl⟩ := hx
    obtain ⟨y', rfl⟩ := hy
    show c :: b <+: (if c = c then c :: lcp (b ++ x') (b ++ y') else [])
    rw [if_pos rfl]
    exact (List.prefix_cons_inj c).2 (lcp_great ⟨x', rfl⟩ ⟨y', rfl⟩)
theorem lcp_parts : ∀ {x y : K}, ¬ x <+: y → ¬ y <+: x → ∃ b : Bool, lcp x y ++ [b] <+: x ∧ lcp x y ++ [!b] <+: y
  | [], y, h, _ => absurd List.nil_prefix h
  | _ :: _, [], _, h => absurd List.nil_prefix h
  | a :: x, b :: y, h1, h2 => by
    by_cases e : a = b
    · subst e
      obtain ⟨c, h3, h4⟩ := lcp_parts (x := x) (y := y) (fun h => h1 ((List.prefix_cons_inj a).2 h)) (fun h => h2 ((List.prefix_cons_inj a).2 h))
      refine ⟨c, ?_, ?_⟩
      · simp only [lcp, ↓reduceIte, List.cons_append]
        exact (List.prefix_cons_inj a).2 h3
      · simp only [lcp, ↓reduceIte, List.cons_append]
        exact (List.prefix_cons_inj a).2 h4
    · refine ⟨a, ?_, ?_⟩
      · simp [lcp, e]
      · simp only [lcp, if_neg e, List.nil_append]
        have : (!a) = b := by cases a <;> cases b <;> simp_all
        rw [this]
        exact (List.prefix_cons_inj b).2 List.nil_prefix
theorem lcp_of_fork {q x y : K} (hx : q ++ [false] <+: x) (hy : q ++ [true] <+: y) : lcp x y = q := by
  obtain ⟨x', rfl⟩ := hx
  obtain ⟨y', rfl⟩ := hy
  induction q with
  | nil => simp [lcp]
  | cons a q ih => simpa [lcp] using ih
theorem not_both {q x y : K} {a b : Bool} (h : a ≠ b) (hx : q ++ [a] <+: x) (hy : q ++ [b] <+: y) : ¬ x <+: y := by
  intro h1
  have h2 := hx.trans h1
  obtain ⟨u, hu⟩ := h2
  obtain ⟨v, hv⟩ := hy
  rw [← hv] at hu
  simp only [List.append_assoc] at hu
  have := List.append_cancel_left hu
  simp at this
  exact h this.1
theorem ne_of_fork {q x y : K} {a b : Bool} (h : a ≠ b) (hx : q ++ [a] <+: x) (hy : q ++ [b] <+: y) : x ≠ y := by
  rintro rfl
  exact not_both h hx hy (List.prefix_rfl)
def bitOf (p : K) (n : Nat) : Bool := p.getD n false
theorem bitOf_next {q p : K} (h : q <+: p) (hl : q.length ≠ p.length) : q ++ [bitOf p q.length] <+: p := by
  obtain ⟨t, rfl⟩ := h
  cases t with
  | nil => simp at hl
  | cons b t => exact ⟨t, by simp [bitOf, List.getD_eq_getElem?_getD]⟩
theorem bitOf_of {q p : K} {b : Bool} (h : q ++ [b] <+: p) : bitOf p q.length = b := by
  obtain ⟨t, rfl⟩ := h
  simp [bitOf, List.getD_eq_getElem?_getD]
theorem pre_of_snoc {q p : K} {b : Bool} (h : q ++ [b] <+: p) : q <+: p := (List.prefix_append q [b]).trans h
theorem ne_of_snoc {q p : K} {b : Bool} (h : q ++ [b] <+: p) : q.length < p.length := by have := h.length_le; simp at this; omega
theorem pre_eq {q p : K} (h : q <+: p) (hl : q.length = p.length) : q = p := h.eq_of_length hl
def lt : K → K → Bool
  | _, [] => false
  | [], _ :: _ => true
  | a :: x, b :: y => (!a && b) || (a == b && lt x y)
theorem lt_irrefl : ∀ x : K, lt x x = false
  | [] => rfl
  | a :: x => by simp [lt, lt_irrefl x]
theorem lt_trans : ∀ {x y z : K}, lt x y = true → lt y z = true → lt x z = true
  | _, _, [], _, h => by cases ‹K› <;> simp [lt] at h
  | [], _, _ :: _, _, _ => rfl
  | a :: x, [], _ :: _, h, _ => by simp [lt] at h
  | a :: x, b :: y, c :: z, h1, h2 => by
    have ih := @lt_trans x y z
    simp only [lt, Bool.or_eq_true, Bool.and_eq_true, Bool.not_eq_true', beq_iff_eq] at h1 h2 ⊢
    rcases h1 with ⟨rfl, rfl⟩ | ⟨rfl, h1⟩ <;> rcases h2 with ⟨h, rfl⟩ | ⟨rfl, h2⟩ <;> simp_all
theorem lt_total : ∀ x y : K, lt x y = false → lt y x = false → x = y
  | [], [], _, _ => rfl
  | [], _ :: _, h, _ => by simp [lt] at h
  | _ :: _, [], _, h => by simp [lt] at h
  | a :: x, b :: y, h1, h2 => by
    have ih := lt_total x y
    cases a <;> cases b <;> simp_all [lt]
theorem lt_of_snoc {q x : K} {b : Bool} (h : q ++ [b] <+: x) : lt q x = true := by
  obtain ⟨t, rfl⟩ := h
  induction q with
  | nil => rfl
  | cons a q ih => simpa [lt] using ih
theorem lt_of_fork {q x y : K} (hx : q ++ [false] <+: x) (hy : q ++ [true] <+: y) : lt x y = true := by
  obtain ⟨x', rfl⟩ := hx
  obtain ⟨y', rfl⟩ := hy
  induction q with
  | nil => rfl
  | cons a q ih => simpa [lt] using ih
abbrev Es := List (K × Int)
def Srt (l : Es) : Prop := l.Pairwise fun a b => lt a.1 b.1 = true
theorem Srt.ext : ∀ {l m : Es}, Srt l → Srt m → (∀ e, e ∈ l ↔ e ∈ m) → l = m
  | [], [], _, _, _ => rfl
  | [], e :: m, _, _, h => by have := (h e).2 (by simp); cases this
  | e :: l, [], _, _, h => by have := (h e).1 (by simp); cases this
  | e :: l, f :: m, hl, hm, h => by
    obtain ⟨hl1, hl2⟩ := List.pairwise_cons.1 hl
    obtain ⟨hm1, hm2⟩ := List.pairwise_cons.1 hm
    have hef : e = f := by
      have h1 := (h e).1 (by simp)
      have h2 := (h f).2 (by simp)
      rcases List.mem_cons.1 h1 with h1 | h1
      · exact h1
      · rcases List.mem_cons.1 h2 with h2 | h2
        · exact h2.symm
        · have := lt_trans (hm1 e h1) (hl1 f h2)
          rw [lt_irrefl] at this; cases this
    subst hef
    rw [Srt.ext hl2 hm2 fun g => ?_]
    constructor
    · intro hg
      rcases List.mem_cons.1 ((h g).1 (by simp [hg])) with h1 | h1
      · subst h1; have := hl1 g hg; rw [lt_irrefl] at this; cases this
      · exact h1
    · intro hg
      rcases List.mem_cons.1 ((h g).2 (by simp [hg])) with h1 | h1
      · subst h1; have := hm1 g hg; rw [lt_irrefl] at this; cases this
      · exact h1
theorem Srt.key {l : Es} (h : Srt l) {k : K} {u v : Int} (hu : (k, u) ∈ l) (hv : (k, v) ∈ l) : u = v := by
  induction l with
  | nil => cases hu
  | cons e l ih =>
    obtain ⟨h1, h2⟩ := List.pairwise_cons.1 h
    rcases List.mem_cons.1 hu with a | a <;> rcases List.mem_cons.1 hv with b | b
    · rw [← a] at b; injection b with _ b; exact b.symm
    · have := h1 _ b; rw [← a] at this; simp [lt_irrefl] at this
    · have := h1 _ a; rw [← b] at this; simp [lt_irrefl] at this
    · exact ih h2 a b
def insL : Es → K → Int → Es
  | [], p, v => [(p, v)]
  | e :: t, p, v => if e.1 = p then (p, v) :: t else if lt p e.1 then (p, v) :: e :: t else e :: insL t p v
theorem mem_insL {l : Es} (h : Srt l) (p : K) (v : Int) (k : K) (u : Int) : (k, u) ∈ insL l p v ↔ (k = p ∧ u = v) ∨ (k ≠ p ∧ (k, u) ∈ l) := by
  induction l with
  | nil => simp [insL]
  | cons e l ih =>
    obtain ⟨h1, h2⟩ := List.pairwise_cons.1 h
    have ih := ih h2
    obtain ⟨q, x⟩ := e
    unfold insL
    simp only
    split
    · rename_i hq
      subst hq
      simp only [List.mem_cons, Prod.mk.injEq]
      constructor
      · rintro (⟨rfl, rfl⟩ | hm)
        · exact .inl ⟨rfl, rfl⟩
        · refine .inr ⟨?_, .inr hm⟩
          rintro rfl
          have := h1 _ hm; simp [lt_irrefl] at this
      · rintro (⟨rfl, rfl⟩ | ⟨hne, ⟨rfl, rfl⟩ | hm⟩)
        · exact .inl ⟨rfl, rfl⟩
        · exact absurd rfl hne
        · exact .inr hm
    · rename_i hq
      split
      · rename_i hlt
        simp only [List.mem_cons, Prod.mk.injEq]
        constructor
        · rintro (⟨rfl, rfl⟩ | ⟨rfl, rfl⟩ | hm)
          · exact .inl ⟨rfl, rfl⟩
          · exact .inr ⟨hq, .inl ⟨rfl, rfl⟩⟩
          · refine .inr ⟨?_, .inr hm⟩
            rintro rfl
            have := lt_trans (h1 _ hm) hlt; simp [lt_irrefl] at this
        · rintro (⟨rfl, rfl⟩ | ⟨hne, hm⟩)
          · exact .inl ⟨rfl, rfl⟩
          · exact .inr hm
      · simp only [List.mem_cons, Prod.mk.injEq, ih]
        constructor
        · rintro (⟨rfl, rfl⟩ | ⟨rfl, rfl⟩ | ⟨hne, hm⟩)
          · exact .inr ⟨hq, .inl ⟨rfl, rfl⟩⟩
          · exact .inl ⟨rfl, rfl⟩
          · exact .inr ⟨hne, .inr hm⟩
        · rintro (⟨rfl, rfl⟩ | ⟨hne, ⟨rfl, rfl⟩ | hm⟩)
          · exact .inr (.inl ⟨rfl, rfl⟩)
          · exact .inl ⟨rfl, rfl⟩
          · exact .inr (.inr ⟨hne, hm⟩)
theorem srt_insL {l : Es} (h : Srt l) (p : K) (v : Int) : Srt (insL l p v) := by
  induction l with
  | nil => exact List.pairwise_singleton _ _
  | cons e l ih =>
    obtain ⟨h1, h2⟩ := List.pairwise_cons.1 h
    unfold insL
    split
    · rename_i hq
      subst hq
      exact List.pairwise_cons.2 ⟨h1, h2⟩
    · rename_i hq
      split
      · rename_i hlt
        refine List.pairwise_cons.2 ⟨?_, h⟩
        intro f hf
        rcases List.mem_cons.1 hf with rfl | hf
        · exact hlt
        · exact lt_trans hlt (h1 f hf)
      · rename_i hlt
        refine List.pairwise_cons.2 ⟨?_, ih h2⟩
        rintro ⟨k, u⟩ hf
        rcases (mem_insL h2 p v k u).1 hf with ⟨rfl, rfl⟩ | ⟨_, hf⟩
        · have h3 : lt k e.1 = false := by simpa using hlt
          cases h4 : lt e.1 k
          · exact absurd (lt_total _ _ h4 h3) hq
          · rfl
        · exact h1 _ hf
def delL (l : Es) (p : K) : Es := l.filter fun e => !(e.1 == p)
theorem mem_delL (l : Es) (p : K) (e : K × Int) : e ∈ delL l p ↔ e ∈ l ∧ e.1 ≠ p := by simp [delL]
theorem srt_delL {l : Es} (h : Srt l) (p : K) : Srt (delL l p) := List.Pairwise.filter _ h
def nub : List K → List K
  | [] => []
  | a :: t => if a ∈ t then nub t else a :: nub t
theorem mem_nub (x : K) : ∀ l, x ∈ nub l ↔ x ∈ l
  | [] => by simp [nub]
  | a :: t => by
    unfold nub
    split
    · rename_i h
      rw [mem_nub x t, List.mem_cons]
      constructor
      · exact .inr
      · rintro (rfl | h2)
        · exact h
        · exact h2
    · simp [mem_nub x t]
theorem nodup_nub : ∀ l, (nub l).Nodup
  | [] => by simp [nub]
  | a :: t => by
    unfold nub
    split
    · exact nodup_nub t
    · rename_i h
      exact List.nodup_cons.2 ⟨by rwa [mem_nub], nodup_nub t⟩
def Cl (l : List K) (x : K) : Prop := x ∈ l ∨ ∃ a b, a ∈ l ∧ b ∈ l ∧ ¬ a <+: b ∧ ¬ b <+: a ∧ lcp a b = x
def closure (l : List K) : List K := l ++ l.flatMap fun a => l.filterMap fun b => if a.isPrefixOf b || b.isPrefixOf a then none else some (lcp a b)
theorem mem_closure (l : List K) (x : K) : x ∈ closure l ↔ Cl l x := by
  unfold closure Cl
  simp only [List.mem_append, List.mem_flatMap, List.mem_filterMap]
  constructor
  · rintro (h | ⟨a, ha, b, hb, h⟩)
    · exact .inl h
    · split at h
      · cases h
      · rename_i hp
        simp only [Bool.or_eq_true, List.isPrefixOf_iff_prefix, not_or] at hp
        injection h with h
        exact .inr ⟨a, b, ha, hb, hp.1, hp.2, h⟩
  · rintro (h | ⟨a, b, ha, hb, h1, h2, h⟩)
    · exact .inl h
    · refine .inr ⟨a, ha, b, hb, ?_⟩
      rw [if_neg (by simp [List.isPrefixOf_iff_prefix, h1, h2]), h]
def nodK (l : List K) : Nat := (nub (closure l)).length
theorem len_of_mem {a b : List K} (ha : a.Nodup) (hb : b.Nodup) (h : ∀ x, x ∈ a ↔ x ∈ b) : a.length = b.length :=
  ((List.perm_ext_iff_of_nodup ha hb).2 h).length_eq
theorem nodK_eq {l m : List K} (hm : m.Nodup) (h : ∀ x, x ∈ m ↔ Cl l x) : m.length = nodK l :=
  len_of_mem hm (nodup_nub _) fun x => by rw [h, mem_nub, mem_closure]
def ks (l : Es) : List K := l.map (·.1)
def nod (l : Es) : Nat := nodK (ks l)
inductive T where
  | nil
  | nd (i : Nat) (q : K) (s : Option Int) (l r : T)
namespace T
def keys : T → List K
  | nil => []
  | nd _ q _ l r => q :: (l.keys ++ r.keys)
def size : T → Nat
  | nil => 0
  | nd _ _ _ l r => l.size + r.size + 1
def idx : T → List Nat
  | nil => []
  | nd i _ _ l r => i :: (l.idx ++ r.idx)
def own (q : K) : Option Int → Es
  | some v => [(q, v)]
  | none => []
def ents : T → Es
  | nil => []
  | nd _ q s l r => own q s ++ (l.ents ++ r.ents)
def WF : T → Prop
  | nil => True
  | nd _ q s l r => (s = none → l ≠ nil ∧ r ≠ nil) ∧ (∀ x ∈ l.keys, q ++ [false] <+: x) ∧ (∀ x ∈ r.keys, q ++ [true] <+: x) ∧ l.WF ∧ r.WF
theorem size_keys : ∀ t : T, t.keys.length = t.size
  | nil => rfl
  | nd _ _ _ l r => by simp [keys, size, size_keys l, size_keys r]
theorem size_idx : ∀ t : T, t.idx.length = t.size
  | nil => rfl
  | nd _ _ _ l r => by simp [idx, size, size_idx l, size_idx r]
theorem own_key {q : K} {s : Option Int} {e : K × Int} (h : e ∈ own q s) : e.1 = q ∧ s = some e.2 := by
  cases s with
  | none => cases h
  | some v => simp [own] at h; subst h; exact ⟨rfl, rfl⟩
theorem ents_keys : ∀ {t : T} {e : K × Int}, e ∈ t.ents → e.1 ∈ t.keys
  | nil, _, h => by cases h
  | nd _ q s l r, e, h => by
    simp only [ents, keys, List.mem_append, List.mem_cons] at h ⊢
    rcases h with h | h | h
    · exact .inl (own_key h).1
    · exact .inr (.inl (ents_keys h))
    · exact .inr (.inr (ents_keys h))
theorem some_ent : ∀ {t : T}, t.WF → t ≠ nil → ∃ e, e ∈ t.ents
  | nil, _, h => absurd rfl h
  | nd _ q (some v) l r, _, _ => ⟨(q, v), by simp [ents, own]⟩
  | nd _ q none l r, h, _ => by
    obtain ⟨h1, _, _, h4, _⟩ := h
    obtain ⟨e, he⟩ := some_ent h4 (h1 rfl).1
    exact ⟨e, by simp [ents, own, he]⟩
theorem srt_ents : ∀ {t : T}, t.WF → Srt t.ents
  | nil, _ => List.Pairwise.nil
  | nd _ q s l r, ⟨_, h2, h3, h4, h5⟩ => by
    have hl : ∀ e ∈ l.ents, q ++ [false] <+: e.1 := fun e he => h2 _ (ents_keys he)
    have hr : ∀ e ∈ r.ents, q ++ [true] <+: e.1 := fun e he => h3 _ (ents_keys he)
    refine List.pairwise_append.2 ⟨?_, List.pairwise_append.2 ⟨srt_ents h4, srt_ents h5, fun a ha b hb => lt_of_fork (hl a ha) (hr b hb)⟩, ?_⟩
    · cases s with
      | none => exact List.Pairwise.nil
      | some v => exact List.pairwise_singleton _ _
    · intro a ha b hb
      rw [(own_key ha).1]
      rcases List.mem_append.1 hb with hb | hb
      · exact lt_of_snoc (hl b hb)
      · exact lt_of_snoc (hr b hb)
theorem nodup_keys : ∀ {t : T}, t.WF → t.keys.Nodup
  | nil, _ => by simp [keys]
  | nd _ q s l r, ⟨_, h2, h3, h4, h5⟩ => by
    simp only [keys, List.nodup_cons, List.mem_append, not_or, List.nodup_append]
    refine ⟨⟨fun h => ?_, fun h => ?_⟩, nodup_keys h4, nodup_keys h5, fun a ha b hb => ne_of_fork (by simp) (h2 a ha) (h3 b hb)⟩
    · have := ne_of_snoc (h2 q h); omega
    · have := ne_of_snoc (h3 q h); omega
theorem mem_ks {l : Es} {k : K} : k ∈ ks l ↔ ∃ v, (k, v) ∈ l := by simp [ks]
theorem ks_keys {t : T} {k : K} (h : k ∈ ks t.ents) : k ∈ t.keys := by
  obtain ⟨v, hv⟩ := mem_ks.1 h
  exact ents_keys hv
theorem keys_cl : ∀ {t : T}, t.WF → ∀ x, x ∈ t.keys ↔ Cl (ks t.ents) x
  | nil, _, x => by simp [keys, ents, Cl, ks]
  | nd i q s l r, ⟨h1, h2, h3, h4, h5⟩, x => by
    have il := keys_cl h4 x
    have ir := keys_cl h5 x
    have hsub : ∀ k, k ∈ ks (nd i q s l r).ents ↔ (k = q ∧ s ≠ none) ∨ k ∈ ks l.ents ∨ k ∈ ks r.ents := by
      intro k
      simp only [ks, ents, List.map_append, List.mem_append]
      cases s <;> simp [own]
    have hl : ∀ k ∈ ks l.ents, q ++ [false] <+: k := fun k hk => h2 _ (ks_keys hk)
    have hr : ∀ k ∈ ks r.ents, q ++ [true] <+: k := fun k hk => h3 _ (ks_keys hk)
    simp only [keys, List.mem_cons, List.mem_append]
    constructor
    · rintro (rfl | hx | hx)
      · by_cases hs : s = none
        · obtain ⟨ea, ha⟩ := some_ent h4 (h1 hs).1
          obtain ⟨eb, hb⟩ := some_ent h5 (h1 hs).2
          have ha' : ea.1 ∈ ks l.ents := mem_ks.2 ⟨ea.2, ha⟩
          have hb' : eb.1 ∈ ks r.ents := mem_ks.2 ⟨eb.2, hb⟩
          exact .inr ⟨ea.1, eb.1, (hsub _).2 (.inr (.inl ha')), (hsub _).2 (.inr (.inr hb')), not_both (by simp) (hl _ ha') (hr _ hb'), not_both (by simp) (hr _ hb') (hl _ ha'), lcp_of_fork (hl _ ha') (hr _ hb')⟩
        · exact .inl ((hsub _).2 (.inl ⟨rfl, hs⟩))
      · rcases il.1 hx with h | ⟨a, b, ha, hb, h⟩
        · exact .inl ((hsub _).2 (.inr (.inl h)))
        · exact .inr ⟨a, b, (hsub _).2 (.inr (.inl ha)), (hsub _).2 (.inr (.inl hb)), h⟩
      · rcases ir.1 hx with h | ⟨a, b, ha, hb, h⟩
        · exact .inl ((hsub _).2 (.inr (.inr h)))
        · exact .inr ⟨a, b, (hsub _).2 (.inr (.inr ha)), (hsub _).2 (.inr (.inr hb)), h⟩
    · rintro (h | ⟨a, b, ha, hb, hab, hba, h⟩)
      · rcases (hsub _).1 h with ⟨h, _⟩ | h | h
        · exact .inl h
        · exact .inr (.inl (ks_keys h))
        · exact .inr (.inr (ks_keys h))
      · rcases (hsub _).1 ha with ⟨ea, _⟩ | ha | ha <;> rcases (hsub _).1 hb with ⟨eb, _⟩ | hb | hb
        · exact absurd (by rw [ea, eb]; exact List.prefix_rfl) hab
        · exact absurd (by rw [ea]; exact pre_of_snoc (hl _ hb)) hab
        · exact absurd (by rw [ea]; exact pre_of_snoc (hr _ hb)) hab
        · exact absurd (by rw [eb]; exact pre_of_snoc (hl _ ha)) hba
        · exact .inr (.inl (il.2 (.inr ⟨a, b, ha, hb, hab, hba, h⟩)))
        · exact .inl (by rw [← h]; exact lcp_of_fork (hl _ ha) (hr _ hb))
        · exact absurd (by rw [eb]; exact pre_of_snoc (hr _ ha)) hba
        · exact .inl (by rw [← h, lcp_comm]; exact lcp_of_fork (hl _ hb) (hr _ ha))
        · exact .inr (.inr (ir.2 (.inr ⟨a, b, ha, hb, hab, hba, h⟩)))
theorem size_nod {t : T} (h : t.WF) : t.size = nod t.ents := by
  rw [← size_keys]
  exact nodK_eq (nodup_keys h) (keys_cl h)
theorem size_ge : ∀ t : T, t.ents.length ≤ t.size
  | nil => by simp [ents, size]
  | nd _ q s l r => by
    have h1 := size_ge l
    have h2 := size_ge r
    cases s <;> simp [ents, size, own] <;> omega
theorem size_lt : ∀ {t : T}, t.WF → t.size ≤ 2 * t.ents.length ∧ (t ≠ nil → t.size + 1 ≤ 2 * t.ents.length)
  | nil, _ => by simp [ents, size]
  | nd _ q s l r, ⟨h1, _, _, h4, h5⟩ => by
    have h2 := size_lt h4
    have h3 := size_lt h5
    cases s with
    | some v => simp [ents, size, own]; omega
    | none =>
      have h6 := h2.2 (h1 rfl).1
      have h7 := h3.2 (h1 rfl).2
      simp [ents, size, own]; omega
end T
end Go.Proofs.Ytjffikckddijmaa
set_option linter.unusedVariables false
set_option linter.unusedSimpArgs false
namespace Go.Proofs.Ytjffikckddijmaa
def stop (q p : K) : Bool := !q.isPrefixOf p || q.length == p.length
theorem stop_false {q p : K} (h : stop q p = false) : q ++ [bitOf p q.length] <+: p := by
  simp only [stop, Bool.or_eq_false_iff, Bool.not_eq_false', List.isPrefixOf_iff_prefix, beq_eq_false_iff_ne] at h
  exact bitOf_next h.1 h.2
theorem stop_self (q : K) : stop q q = true := by simp [stop]
theorem stop_true {q p : K} (h : stop q p = true) (hp : q <+: p) : q = p := by
  simp only [stop, Bool.or_eq_true, Bool.not_eq_true', beq_iff_eq] at h
  rcases h with h | h
  · have := List.isPrefixOf_iff_prefix.2 hp; rw [this] at h; cases h
  · exact pre_eq hp h
theorem stop_under {q p : K} {b : Bool} (h : q ++ [b] <+: p) : stop q p = false ∧ bitOf p q.length = b := by
  refine ⟨?_, bitOf_of h⟩
  have h1 := ne_of_snoc h
  simp only [stop, Bool.or_eq_false_iff, Bool.not_eq_false', List.isPrefixOf_iff_prefix, beq_eq_false_iff_ne]
  exact ⟨pre_of_snoc h, by omega⟩
namespace T
def sub (p : K) : T → T
  | nil => nil
  | nd i q s l r => if stop q p then nd i q s l r else if bitOf p q.length then sub p r else sub p l
def repl (p : K) (f : T → T) : T → T
  | nil => f nil
  | nd i q s l r => if stop q p then f (nd i q s l r) else if bitOf p q.length then nd i q s l (repl p f r) else nd i q s (repl p f l) r
theorem repl_idx (p : K) (f : T → T) (E : List Nat) : ∀ t : T, List.Perm (f (sub p t)).idx ((sub p t).idx ++ E) → List.Perm (repl p f t).idx (t.idx ++ E)
  | nil, h => h
  | nd i q s l r, h => by
    unfold sub at h
    unfold repl
    by_cases h1 : stop q p = true
    · rw [if_pos h1] at h ⊢
      exact h
    · rw [if_neg h1] at h ⊢
      by_cases h2 : bitOf p q.length = true
      · rw [if_pos h2] at h ⊢
        have := repl_idx p f E r h
        simp only [idx, List.cons_append, List.append_assoc]
        exact (this.append_left l.idx).cons i
      · rw [if_neg h2] at h ⊢
        have := repl_idx p f E l h
        simp only [idx, List.cons_append, List.append_assoc]
        refine List.Perm.cons i ((this.append_right r.idx).trans ?_)
        rw [List.append_assoc]
        exact List.perm_append_comm.append_left l.idx
def insAt (p : K) (v : Int) (i j : Nat) : T → T
  | nil => nd i p (some v) nil nil
  | nd m q s l r =>
    if q = p then nd m q (some v) l r
    else if (lcp p q).length < p.length then (if bitOf p (lcp p q).length then nd j (lcp p q) none (nd m q s l r) (nd i p (some v) nil nil) else nd j (lcp p q) none (nd i p (some v) nil nil) (nd m q s l r))
    else if bitOf q (lcp p q).length then nd i p (some v) nil (nd m q s l r) else nd i p (some v) (nd m q s l r) nil
theorem insAt_nd (p : K) (v : Int) (i j m : Nat) (q : K) (s : Option Int) (l r : T) : insAt p v i j (nd m q s l r) =
    if q = p then nd m q (some v) l r
    else if (lcp p q).length < p.length then (if bitOf p (lcp p q).length then nd j (lcp p q) none (nd m q s l r) (nd i p (some v) nil nil) else nd j (lcp p q) none (nd i p (some v) nil nil) (nd m q s l r))
    else if bitOf q (lcp p q).length then nd i p (some v) nil (nd m q s l r) else nd i p (some v) (nd m q s l r) nil := rfl
def ins (p : K) (v : Int) (i j : Nat) (t : T) : T := repl p (insAt p v i j) t
def needs (p : K) : T → Nat
  | nil => 1
  | nd m q s l r => if q = p then 0 else if (lcp p q).length < p.length then 2 else 1
theorem lcp_full {p q : K} (h : ¬ (lcp p q).length < p.length) : p <+: q := by
  have h1 := lcp_left p q
  have h2 := h1.length_le
  have := pre_eq h1 (by omega)
  rw [← this]; exact lcp_right p q
theorem lcp_fork {p q : K} (hs : stop q p = true) (hne : q ≠ p) (h : (lcp p q).length < p.length) : ∃ b : Bool, lcp p q ++ [b] <+: p ∧ lcp p q ++ [!b] <+: q := by
  refine lcp_parts (fun h1 => ?_) (fun h1 => ?_)
  · have h2 : p <+: lcp p q := lcp_great List.prefix_rfl h1
    have := h2.length_le
    omega
  · exact hne (stop_true hs h1)
theorem under_insAt {b p : K} {v : Int} {i j : Nat} (hp : b <+: p) : ∀ {t : T}, (∀ x ∈ t.keys, b <+: x) → ∀ x ∈ (insAt p v i j t).keys, b <+: x
  | nil, _, x, hx => by simp [insAt, keys] at hx; subst hx; exact hp
  | nd m q s l r, h, x, hx => by
    have hq : b <+: q := h q (by simp [keys])
    have hh : ∀ y, y ∈ (nd m q s l r).keys → b <+: y := h
    rw [insAt_nd] at hx
    split at hx
    · exact hh x (by simpa [keys] using hx)
    · split at hx
      · split at hx
        · simp only [keys, List.mem_cons, List.mem_append, List.not_mem_nil, or_false] at hx
          rcases hx with rfl | hx | rfl
          · exact lcp_great hp hq
          · exact hh x (by simpa [keys] using hx)
          · exact hp
        · simp only [keys, List.mem_cons, List.mem_append, List.not_mem_nil, or_false] at hx
          rcases hx with rfl | rfl | hx
          · exact lcp_great hp hq
          · exact hp
          · exact hh x (by simpa [keys] using hx)
      · split at hx
        · simp only [keys, List.mem_cons, List.mem_append, List.not_mem_nil, false_or] at hx
          rcases hx with rfl | hx
          · exact hp
          · exact hh x (by simpa [keys] using hx)
        · simp only [keys, List.mem_cons, List.mem_append, List.not_mem_nil, or_false] at hx
          rcases hx with rfl | hx
          · exact hp
          · exact hh x (by simpa [keys] using hx)
theorem under_ins {b p : K} {v : Int} {i j : Nat} (hp : b <+: p) : ∀ {t : T}, (∀ x ∈ t.keys, b <+: x) → ∀ x ∈ (ins p v i j t).keys, b <+: x
  | nil, h => under_insAt (v := v) (i := i) (j := j) hp h
  | nd m q s l r, h => by
    unfold ins repl
    split
    · exact under_insAt hp h
    · split
      · intro x hx
        simp only [keys, List.mem_cons, List.mem_append] at hx
        rcases hx with rfl | hx | hx
        · exact h _ (by simp [keys])
        · exact h _ (by simp [keys, hx])
        · exact under_ins (t := r) hp (fun y hy => h y (by simp [keys, hy])) x hx
      · intro x hx
        simp only [keys, List.mem_cons, List.mem_append] at hx
        rcases hx with rfl | hx | hx
        · exact h _ (by simp [keys])
        · exact under_ins (t := l) hp (fun y hy => h y (by simp [keys, hy])) x hx
        · exact h _ (by simp [keys, hx])
theorem all_under {m : Nat} {q : K} {s : Option Int} {l r : T} (h : (nd m q s l r).WF) {b : K} (hb : b <+: q) : ∀ x ∈ (nd m q s l r).keys, b <+: x := by
  intro x hx
  simp only [keys, List.mem_cons, List.mem_append] at hx
  obtain ⟨_, h2, h3, _, _⟩ := h
  rcases hx with rfl | hx | hx
  · exact hb
  · exact hb.trans (pre_of_snoc (h2 x hx))
  · exact hb.trans (pre_of_snoc (h3 x hx))
theorem wf_leaf (i : Nat) (p : K) (v : Int) : (nd i p (some v) nil nil).WF := ⟨by simp, by simp [keys], by simp [keys], trivial, trivial⟩
theorem wf_insAt {p : K} {v : Int} {i j : Nat} : ∀ {t : T}, t.WF → (∀ m q s l r, t = nd m q s l r → stop q p = true) → (insAt p v i j t).WF
  | nil, _, _ => wf_leaf i p v
  | nd m q s l r, h, hs => by
    have hs := hs m q s l r rfl
    rw [insAt_nd]
    split
    · obtain ⟨_, h2, h3, h4, h5⟩ := h
      exact ⟨by simp, h2, h3, h4, h5⟩
    · rename_i hne
      split
      · rename_i hlen
        obtain ⟨b, hb1, hb2⟩ := lcp_fork hs hne hlen
        have hbit := bitOf_of hb1
        split
        · rename_i hb
          rw [hb] at hbit
          subst hbit
          refine ⟨by simp, all_under h (by simpa using hb2), ?_, h, wf_leaf i p v⟩
          intro x hx
          simp [keys] at hx; subst hx; exact hb1
        · rename_i hb
          have hb : b = false := by rw [← hbit]; simpa using hb
          subst hb
          refine ⟨by simp, ?_, all_under h (by simpa using hb2), wf_leaf i p v, h⟩
          intro x hx
          simp [keys] at hx; subst hx; exact hb1
      · rename_i hlen
        have hpq := lcp_full hlen
        have hl : lcp p q = p := pre_eq (lcp_left p q) (by have := (lcp_left p q).length_le; omega)
        rw [hl]
        have hb := bitOf_next hpq (fun e => hne (pre_eq hpq e).symm)
        split
        · rename_i hbit
          rw [hbit] at hb
          exact ⟨by simp, by simp [keys], all_under h hb, trivial, h⟩
        · rename_i hbit
          rw [show bitOf q p.length = false by simpa using hbit] at hb
          exact ⟨by simp, all_under h hb, by simp [keys], h, trivial⟩
theorem ne_nil_ins {p : K} {v : Int} {i j : Nat} : ∀ {t : T}, ins p v i j t ≠ nil
  | nil => by simp [ins, repl, insAt]
  | nd m q s l r => by
    unfold ins repl
    split
    · rw [insAt_nd]
      split
      · simp
      · split <;> split <;> simp
    · split <;> simp
theorem wf_ins {p : K} {v : Int} {i j : Nat} : ∀ {t : T}, t.WF → (ins p v i j t).WF
  | nil, h => wf_leaf i p v
  | nd m q s l r, h => by
    unfold ins repl
    split
    · rename_i hs
      exact wf_insAt h (by rintro m' q' s' l' r' e; injection e with _ e; subst e; exact hs)
    · rename_i hs
      have hn := stop_false (by simpa using hs)
      obtain ⟨h1, h2, h3, h4, h5⟩ := h
      split
      · rename_i hb
        rw [hb] at hn
        exact ⟨fun e => ⟨(h1 e).1, ne_nil_ins⟩, h2, under_ins (i := i) (j := j) (v := v) hn h3, h4, wf_ins h5⟩
      · rename_i hb
        rw [show bitOf p q.length = false by simpa using hb] at hn
        exact ⟨fun e => ⟨ne_nil_ins, (h1 e).2⟩, under_ins (i := i) (j := j) (v := v) hn h2, h3, wf_ins h4, h5⟩
theorem size_repl {p : K} {f : T → T} {n : Nat} : ∀ {t : T}, (f (sub p t)).size = (sub p t).size + n → (repl p f t).size = t.size + n
  | nil, h => h
  | nd m q s l r, h => by
    unfold sub at h
    unfold repl
    split
    · rename_i h1; rw [if_pos h1] at h; exact h
    · rename_i h1
      rw [if_neg h1] at h
      split
      · rename_i h2
        rw [if_pos h2] at h
        have := size_repl (t := r) h
        simp only [size, this]; omega
      · rename_i h2
        rw [if_neg h2] at h
        have := size_repl (t := l) h
        simp only [size, this]; omega
theorem size_insAt (p : K) (v : Int) (i j : Nat) : ∀ t : T, (insAt p v i j t).size = t.size + needs p t
  | nil => rfl
  | nd m q s l r => by
    rw [insAt_nd]
    unfold needs
    simp only
    split
    · rfl
    · split
      · split <;> simp [size] <;> omega
      · split <;> simp [size]
theorem size_ins (p : K) (v : Int) (i j : Nat) (t : T) : (ins p v i j t).size = t.size + needs p (sub p t) := size_repl (size_insAt p v i j _)
theorem mem_own {q : K} {s : Option Int} {k : K} {u : Int} : (k, u) ∈ own q s ↔ k = q ∧ s = some u := by
  cases s with
  | none => simp [own]
  | some v => simp only [own, List.mem_singleton, Prod.mk.injEq, Option.some.injEq]; exact ⟨fun ⟨a, b⟩ => ⟨a, b.symm⟩, fun ⟨a, b⟩ => ⟨a, b.symm⟩⟩
theorem mem_nd {m : Nat} {q : K} {s : Option Int} {l r : T} {k : K} {u : Int} : (k, u) ∈ (nd m q s l r).ents ↔ (k = q ∧ s = some u) ∨ (k, u) ∈ l.ents ∨ (k, u) ∈ r.ents := by
  simp only [ents, List.mem_append, mem_own]
theorem mem_insAt {p : K} {v : Int} {i j : Nat} {k : K} {u : Int} : ∀ {t : T}, t.WF → (∀ m q s l r, t = nd m q s l r → stop q p = true) →
    ((k, u) ∈ (insAt p v i j t).ents ↔ (k = p ∧ u = v) ∨ (k ≠ p ∧ (k, u) ∈ t.ents))
  | nil, _, _ => by simp [insAt, ents, own]
  | nd m q s l r, h, hs => by
    have hs := hs m q s l r rfl
    rw [insAt_nd]
    split
    · rename_i hq
      subst hq
      obtain ⟨_, h2, h3, h4, h5⟩ := h
      have e1 : (k, u) ∈ l.ents → k ≠ q := fun hm e => by have := ne_of_snoc (h2 _ (ents_keys hm)); simp [e] at this
      have e2 : (k, u) ∈ r.ents → k ≠ q := fun hm e => by have := ne_of_snoc (h3 _ (ents_keys hm)); simp [e] at this
      rw [mem_nd, mem_nd]
      constructor
      · rintro (⟨h, h'⟩ | h | h)
        · injection h' with h'; exact .inl ⟨h, h'.symm⟩
        · exact .inr ⟨e1 h, .inr (.inl h)⟩
        · exact .inr ⟨e2 h, .inr (.inr h)⟩
      · rintro (⟨h, h'⟩ | ⟨hne, ⟨h, _⟩ | h | h⟩)
        · exact .inl ⟨h, by rw [h']⟩
        · exact absurd h hne
        · exact .inr (.inl h)
        · exact .inr (.inr h)
    · rename_i hne
      have hno : p ∉ (nd m q s l r).keys := by
        intro hm
        have : q <+: p := all_under h (List.prefix_rfl) p hm
        exact hne (stop_true hs this)
      have e1 : (k, u) ∈ (nd m q s l r).ents → k ≠ p := fun hm e => hno (e ▸ ents_keys hm)
      have key : ((k = p ∧ u = v) ∨ (k, u) ∈ (nd m q s l r).ents) ↔ (k = p ∧ u = v) ∨ (k ≠ p ∧ (k, u) ∈ (nd m q s l r).ents) :=
        ⟨fun h => h.elim .inl fun h => .inr ⟨e1 h, h⟩, fun h => h.elim .inl fun h => .inr h.2⟩
      have lf : (k, u) ∈ (nd i p (some v) nil nil).ents ↔ (k = p ∧ u = v) := by simp [ents, own]
      rw [← key]
      split
      · split
        · rw [mem_nd, lf]; simp only [reduceCtorEq, and_false, false_or]; exact Or.comm
        · rw [mem_nd, lf]; simp only [reduceCtorEq, and_false, false_or]
      · split
        · rw [mem_nd (l := nil)]; simp only [ents, List.not_mem_nil, false_or, Option.some.injEq, eq_comm (a := v)]
        · rw [mem_nd (r := nil)]; simp only [ents, List.not_mem_nil, or_false, Option.some.injEq, eq_comm (a := v)]
theorem mem_ins {p : K} {v : Int} {i j : Nat} {k : K} {u : Int} : ∀ {t : T}, t.WF → ((k, u) ∈ (ins p v i j t).ents ↔ (k = p ∧ u = v) ∨ (k ≠ p ∧ (k, u) ∈ t.ents))
  | nil, h => by simp [ins, repl, insAt, ents, own]
  | nd m q s l r, h => by
    unfold ins repl
    split
    · rename_i hs
      exact mem_insAt h (by rintro m' q' s' l' r' e; injection e with _ e; subst e; exact hs)
    · rename_i hs
      have hn := stop_false (by simpa using hs)
      have hqp : q ≠ p := fun e => by have := ne_of_snoc hn; simp [e] at this
      obtain ⟨h1, h2, h3, h4, h5⟩ := h
      split
      · rename_i hb
        rw [hb] at hn
        have ih := mem_ins (p := p) (v := v) (i := i) (j := j) (k := k) (u := u) h5
        unfold ins at ih
        rw [mem_nd, mem_nd, ih]
        have e1 : (k, u) ∈ l.ents → k ≠ p := fun hm => ne_of_fork (by simp) (h2 _ (ents_keys hm)) hn
        constructor
        · rintro (⟨rfl, h⟩ | h | h | ⟨h, h'⟩)
          · exact .inr ⟨hqp, .inl ⟨rfl, h⟩⟩
          · exact .inr ⟨e1 h, .inr (.inl h)⟩
          · exact .inl h
          · exact .inr ⟨h, .inr (.inr h')⟩
        · rintro (h | ⟨h, h' | h' | h'⟩)
          · exact .inr (.inr (.inl h))
          · exact .inl h'
          · exact .inr (.inl h')
          · exact .inr (.inr (.inr ⟨h, h'⟩))
      · rename_i hb
        rw [show bitOf p q.length = false by simpa using hb] at hn
        have ih := mem_ins (p := p) (v := v) (i := i) (j := j) (k := k) (u := u) h4
        unfold ins at ih
        rw [mem_nd, mem_nd, ih]
        have e1 : (k, u) ∈ r.ents → k ≠ p := fun hm => ne_of_fork (by simp) (h3 _ (ents_keys hm)) hn
        constructor
        · rintro (⟨rfl, h⟩ | (h | ⟨h, h'⟩) | h)
          · exact .inr ⟨hqp, .inl ⟨rfl, h⟩⟩
          · exact .inl h
          · exact .inr ⟨h, .inr (.inl h')⟩
          · exact .inr ⟨e1 h, .inr (.inr h)⟩
        · rintro (h | ⟨h, h' | h' | h'⟩)
          · exact .inr (.inl (.inl h))
          · exact .inl h'
          · exact .inr (.inl (.inr ⟨h, h'⟩))
          · exact .inr (.inr h')
theorem ents_ins {p : K} {v : Int} {i j : Nat} {t : T} (h : t.WF) : (ins p v i j t).ents = insL t.ents p v :=
  Srt.ext (srt_ents (wf_ins h)) (srt_insL (srt_ents h) p v) fun ⟨k, u⟩ => by rw [mem_ins h, mem_insL (srt_ents h)]
theorem size_nod_ins {p : K} {v : Int} {t : T} (h : t.WF) : t.size + needs p (sub p t) = nod (insL t.ents p v) := by
  rw [← size_ins p v 0 0, size_nod (wf_ins h), ents_ins h]
def hl : T → T
  | nd _ _ none nil r => r
  | nd _ _ none l nil => l
  | t => t
theorem hl_some (i : Nat) (q : K) (v : Int) (l r : T) : hl (nd i q (some v) l r) = nd i q (some v) l r := by unfold hl; split <;> simp_all
theorem hl_two {i : Nat} {q : K} {s : Option Int} {l r : T} (hl' : l ≠ nil) (hr : r ≠ nil) : hl (nd i q s l r) = nd i q s l r := by
  unfold hl; split <;> simp_all
theorem hl_one (i : Nat) (q : K) (l : T) : hl (nd i q none l nil) = l := by cases l <;> rfl
theorem hl_cases (i : Nat) (q : K) (s : Option Int) (l r : T) :
    (hl (nd i q s l r) = nd i q s l r ∧ (s = none → l ≠ nil ∧ r ≠ nil)) ∨ (s = none ∧ l = nil ∧ hl (nd i q s l r) = r) ∨ (s = none ∧ r = nil ∧ l ≠ nil ∧ hl (nd i q s l r) = l) := by
  cases s with
  | some v => exact .inl ⟨hl_some .., by simp⟩
  | none =>
    by_cases h1 : l = nil
    · subst h1; exact .inr (.inl ⟨rfl, rfl, rfl⟩)
    · by_cases h2 : r = nil
      · subst h2; exact .inr (.inr ⟨rfl, rfl, h1, hl_one ..⟩)
      · exact .inl ⟨hl_two h1 h2, fun _ => ⟨h1, h2⟩⟩
def unmark : T → T
  | nil => nil
  | nd i q _ l r => nd i q none l r
def del (p : K) : T → T
  | nil => nil
  | nd i q s l r => if stop q p then hl (nd i q none l r) else if bitOf p q.length then hl (nd i q s l (del p r)) else hl (nd i q s (del p l) r)
def has (p : K) (t : T) : Prop := ∃ i v l r, sub p t = nd i p (some v) l r
theorem wf_hl {i : Nat} {q : K} {s : Option Int} {l r : T} (h2 : ∀ x ∈ l.keys, q ++ [false] <+: x) (h3 : ∀ x ∈ r.keys, q ++ [true] <+: x) (h4 : l.WF) (h5 : r.WF) : (hl (nd i q s l r)).WF := by
  rcases hl_cases i q s l r with ⟨e, h⟩ | ⟨_, _, e⟩ | ⟨_, _, _, e⟩
  · rw [e]; exact ⟨h, h2, h3, h4, h5⟩
  · rw [e]; exact h5
  · rw [e]; exact h4
theorem keys_hl {i : Nat} {q : K} {s : Option Int} {l r : T} : ∀ x ∈ (hl (nd i q s l r)).keys, x ∈ (nd i q s l r).keys := by
  intro x hx
  rcases hl_cases i q s l r with ⟨e, h⟩ | ⟨_, _, e⟩ | ⟨_, _, _, e⟩
  · rw [e] at hx; exact hx
  · rw [e] at hx; simp [keys, hx]
  · rw [e] at hx; simp [keys, hx]
theorem keys_del {p : K} : ∀ {t : T}, ∀ x ∈ (del p t).keys, x ∈ t.keys
  | nil, x, hx => hx
  | nd i q s l r, x, hx => by
    unfold del at hx
    split at hx
    · have := keys_hl x hx
      simpa [keys] using this
    · split at hx
      · have := keys_hl x hx
        simp only [keys, List.mem_cons, List.mem_append] at this ⊢
        rcases this with h | h | h
        · exact .inl h
        · exact .inr (.inl h)
        · exact .inr (.inr (keys_del x h))
      · have := keys_hl x hx
        simp only [keys, List.mem_cons, List.mem_append] at this ⊢
        rcases this with h | h | h
        · exact .inl h
        · exact .inr (.inl (keys_del x h))
        · exact .inr (.inr h)
theorem wf_del {p : K} : ∀ {t : T}, t.WF → (del p t).WF
  | nil, h => h
  | nd i q s l r, ⟨h1, h2, h3, h4, h5⟩ => by
    unfold del
    split
    · exact wf_hl h2 h3 h4 h5
    · split
      · exact wf_hl h2 (fun x hx => h3 x (keys_del x hx)) h4 (wf_del h5)
      · exact wf_hl (fun x hx => h2 x (keys_del x hx)) h3 (wf_del h4) h5
theorem mem_hl {i : Nat} {q : K} {s : Option Int} {l r : T} {e : K × Int} : e ∈ (hl (nd i q s l r)).ents ↔ e ∈ (nd i q s l r).ents := by
  rcases hl_cases i q s l r with ⟨e, h⟩ | ⟨rfl, rfl, e⟩ | ⟨rfl, rfl, _, e⟩
  · rw [e]
  · rw [e]; simp [ents, own]
  · rw [e]; simp [ents, own]
theorem mem_del {p : K} {k : K} {u : Int} : ∀ {t : T}, t.WF → has p t → ((k, u) ∈ (del p t).ents ↔ (k, u) ∈ t.ents ∧ k ≠ p)
  | nil, _, ⟨_, _, _, _, h⟩ => by simp [sub] at h
  | nd i q s l r, ⟨h1, h2, h3, h4, h5⟩, hh => by
    obtain ⟨i', v', l', r', hh⟩ := hh
    unfold sub at hh
    unfold del
    have f1 : (k, u) ∈ l.ents → k ≠ q := fun hm e => by have := ne_of_snoc (h2 _ (ents_keys hm)); simp [e] at this
    have f2 : (k, u) ∈ r.ents → k ≠ q := fun hm e => by have := ne_of_snoc (h3 _ (ents_keys hm)); simp [e] at this
    split
    · rename_i hs
      rw [if_pos hs] at hh
      injection hh with _ hq hsv _ _
      subst hq
      rw [mem_hl, mem_nd, mem_nd]
      constructor
      · rintro (⟨_, h⟩ | h | h)
        · cases h
        · exact ⟨.inr (.inl h), f1 h⟩
        · exact ⟨.inr (.inr h), f2 h⟩
      · rintro ⟨⟨h, _⟩ | h | h, hne⟩
        · exact absurd h hne
        · exact .inr (.inl h)
        · exact .inr (.inr h)
    · rename_i hs
      rw [if_neg hs] at hh
      have hn := stop_false (by simpa using hs)
      have hqp : q ≠ p := fun e => by have := ne_of_snoc hn; simp [e] at this
      split
      · rename_i hb
        rw [if_pos hb] at hh
        rw [hb] at hn
        rw [mem_hl, mem_nd, mem_nd, mem_del h5 ⟨i', v', l', r', hh⟩]
        have e1 : (k, u) ∈ l.ents → k ≠ p := fun hm => ne_of_fork (by simp) (h2 _ (ents_keys hm)) hn
        constructor
        · rintro (⟨rfl, h⟩ | h | ⟨h, h'⟩)
          · exact ⟨.inl ⟨rfl, h⟩, hqp⟩
          · exact ⟨.inr (.inl h), e1 h⟩
          · exact ⟨.inr (.inr h), h'⟩
        · rintro ⟨h | h | h, hne⟩
          · exact .inl h
          · exact .inr (.inl h)
          · exact .inr (.inr ⟨h, hne⟩)
      · rename_i hb
        rw [if_neg hb] at hh
        rw [show bitOf p q.length = false by simpa using hb] at hn
        rw [mem_hl, mem_nd, mem_nd, mem_del h4 ⟨i', v', l', r', hh⟩]
        have e1 : (k, u) ∈ r.ents → k ≠ p := fun hm => ne_of_fork (by simp) (h3 _ (ents_keys hm)) hn
        constructor
        · rintro (⟨rfl, h⟩ | ⟨h, h'⟩ | h)
          · exact ⟨.inl ⟨rfl, h⟩, hqp⟩
          · exact ⟨.inr (.inl h), h'⟩
          · exact ⟨.inr (.inr h), e1 h⟩
        · rintro ⟨h | h | h, hne⟩
          · exact .inl h
          · exact .inr (.inl ⟨h, hne⟩)
          · exact .inr (.inr h)
theorem ents_del {p : K} {t : T} (h : t.WF) (hh : has p t) : (del p t).ents = delL t.ents p :=
  Srt.ext (srt_ents (wf_del h)) (srt_delL (srt_ents h) p) fun ⟨k, u⟩ => by rw [mem_del h hh, mem_delL]
theorem has_iff {p : K} : ∀ {t : T}, t.WF → (has p t ↔ ∃ v, (p, v) ∈ t.ents)
  | nil, _ => by simp [has, sub, ents]
  | nd i q s l r, ⟨h1, h2, h3, h4, h5⟩ => by
    unfold has sub
    by_cases hs : stop q p = true
    · simp only [if_pos hs]
      constructor
      · rintro ⟨i', v', l', r', h⟩
        injection h with _ hq hsv _ _
        exact ⟨v', mem_nd.2 (.inl ⟨hq.symm, hsv⟩)⟩
      · rintro ⟨v, hm⟩
        have hk : q <+: p := all_under (m := i) (s := s) (l := l) (r := r) ⟨h1, h2, h3, h4, h5⟩ List.prefix_rfl p (ents_keys hm)
        obtain rfl := stop_true hs hk
        rcases mem_nd.1 hm with ⟨_, h⟩ | h | h
        · exact ⟨i, v, l, r, by rw [h]⟩
        · have := ne_of_snoc (h2 _ (ents_keys h)); simp at this
        · have := ne_of_snoc (h3 _ (ents_keys h)); simp at this
    · simp only [if_neg hs]
      have hn := stop_false (by simpa using hs)
      have hqp : q ≠ p := fun e => by have := ne_of_snoc hn; simp [e] at this
      by_cases hb : bitOf p q.length = true
      · simp only [if_pos hb]
        rw [hb] at hn
        have ih := has_iff (p := p) h5
        unfold has at ih
        rw [ih]
        constructor
        · rintro ⟨v, h⟩; exact ⟨v, mem_nd.2 (.inr (.inr h))⟩
        · rintro ⟨v, h⟩
          rcases mem_nd.1 h with ⟨h, _⟩ | h | h
          · exact absurd h.symm hqp
          · exact absurd rfl (ne_of_fork (by simp) (h2 _ (ents_keys h)) hn)
          · exact ⟨v, h⟩
      · simp only [if_neg hb]
        rw [show bitOf p q.length = false by simpa using hb] at hn
        have ih := has_iff (p := p) h4
        unfold has at ih
        rw [ih]
        constructor
        · rintro ⟨v, h⟩; exact ⟨v, mem_nd.2 (.inr (.inl h))⟩
        · rintro ⟨v, h⟩
          rcases mem_nd.1 h with ⟨h, _⟩ | h | h
          · exact absurd h.symm hqp
          · exact ⟨v, h⟩
          · exact absurd rfl (ne_of_fork (by simp) (h3 _ (ents_keys h)) hn)
def par (p : K) : T → Option K
  | nil => none
  | nd i q s l r => if stop q p then none else if bitOf p q.length then (par p r).or (some q) else (par p l).or (some q)
theorem par_none_sub {p : K} : ∀ {t : T}, par p t = none → sub p t = t ∧ ∀ f, repl p f t = f t
  | nil, _ => ⟨rfl, fun _ => rfl⟩
  | nd i q s l r, h => by
    unfold par at h
    by_cases hs : stop q p = true
    · exact ⟨by unfold sub; rw [if_pos hs], fun f => by unfold repl; rw [if_pos hs]⟩
    · rw [if_neg hs] at h
      split at h <;> simp at h
theorem par_key {p : K} : ∀ {t : T} {k : K}, par p t = some k → k ∈ t.keys
  | nil, _, h => by cases h
  | nd i q s l r, k, h => by
    unfold par at h
    split at h
    · cases h
    · split at h
      · cases h2 : par p r with
        | none => rw [h2] at h; simp at h; subst h; simp [keys]
        | some k' => rw [h2] at h; simp at h; subst h; have := par_key h2; simp [keys, this]
      · cases h2 : par p l with
        | none => rw [h2] at h; simp at h; subst h; simp [keys]
        | some k' => rw [h2] at h; simp at h; subst h; have := par_key h2; simp [keys, this]
theorem del_ne_nil {p : K} : ∀ {t : T} {k : K}, t.WF → par p t = some k → del p t ≠ nil
  | nil, _, _, h => by cases h
  | nd i q s l r, k, ⟨h1, _, _, _, _⟩, h => by
    unfold par at h
    unfold del
    split at h
    · cases h
    · rename_i hs
      rw [if_neg hs]
      split
      · rcases hl_cases i q s l (del p r) with ⟨e, _⟩ | ⟨hn, hl0, e⟩ | ⟨hn, hr0, hl0, e⟩
        · rw [e]; simp
        · exact absurd hl0 (h1 hn).1
        · rw [e]; exact hl0
      · rcases hl_cases i q s (del p l) r with ⟨e, _⟩ | ⟨hn, hl0, e⟩ | ⟨hn, hr0, hl0, e⟩
        · rw [e]; simp
        · rw [e]; exact (h1 hn).2
        · exact absurd hr0 (h1 hn).2
theorem del_code {p : K} : ∀ {t : T}, t.WF →
    (par p t = none → del p t = (match t with | nil => nil | _ => hl (unmark t))) ∧
    (∀ k, par p t = some k → sub p t ≠ nil → del p t = repl k hl (repl p (fun x => hl (unmark x)) t))
  | nil, _ => ⟨fun _ => rfl, fun _ h => by cases h⟩
  | nd i q s l r, ⟨h1, h2, h3, h4, h5⟩ => by
    by_cases hs : stop q p = true
    · refine ⟨fun _ => by simp only [del, if_pos hs, unmark], fun k h => ?_⟩
      unfold par at h
      rw [if_pos hs] at h; cases h
    · refine ⟨fun h => ?_, fun k h hsub => ?_⟩
      · unfold par at h
        rw [if_neg hs] at h
        split at h <;> simp at h
      · unfold par at h
        unfold sub at hsub
        rw [if_neg hs] at h hsub
        have hn := stop_false (by simpa using hs)
        by_cases hb : bitOf p q.length = true
        · rw [if_pos hb] at h hsub
          simp only [del, repl, if_neg hs, if_pos hb]
          cases h6 : par p r with
          | none =>
            rw [h6] at h
            simp at h; subst h
            have h7 := (par_none_sub h6).2 (fun x => hl (unmark x))
            rw [h7]
            simp only [repl, stop_self, ↓reduceIte]
            have h8 := (del_code h5 (p := p)).1 h6
            rw [h8]
            cases r with
            | nil => rw [(par_none_sub h6).1] at hsub; exact absurd rfl hsub
            | nd => rfl
          | some k' =>
            rw [h6] at h
            simp at h; subst h
            have hk : q ++ [true] <+: k' := h3 _ (par_key h6)
            obtain ⟨hk1, hk2⟩ := stop_under hk
            simp only [repl, hk1, hk2, ↓reduceIte, Bool.false_eq_true]
            rw [← (del_code h5 (p := p)).2 k' h6 hsub]
            rcases hl_cases i q s l (del p r) with ⟨e, _⟩ | ⟨hn, hl0, e⟩ | ⟨hn, hr0, hl0, e⟩
            · rw [e]
            · exact absurd hl0 (h1 hn).1
            · exact absurd hr0 (del_ne_nil h5 h6)
        · rw [if_neg hb] at h hsub
          simp only [del, repl, if_neg hs, if_neg hb]
          cases h6 : par p l with
          | none =>
            rw [h6] at h
            simp at h; subst h
            have h7 := (par_none_sub h6).2 (fun x => hl (unmark x))
            rw [h7]
            simp only [repl, stop_self, ↓reduceIte]
            have h8 := (del_code h4 (p := p)).1 h6
            rw [h8]
            cases l with
            | nil => rw [(par_none_sub h6).1] at hsub; exact absurd rfl hsub
            | nd => rfl
          | some k' =>
            rw [h6] at h
            simp at h; subst h
            have hk : q ++ [false] <+: k' := h2 _ (par_key h6)
            obtain ⟨hk1, hk2⟩ := stop_under hk
            simp only [repl, hk1, hk2, ↓reduceIte, Bool.false_eq_true]
            rw [← (del_code h4 (p := p)).2 k' h6 hsub]
            rcases hl_cases i q s (del p l) r with ⟨e, _⟩ | ⟨hn, hl0, e⟩ | ⟨hn, hr0, hl0, e⟩
            · rw [e]
            · exact absurd hl0 (del_ne_nil h4 h6)
            · exact absurd hr0 (h1 hn).2
def find (A : K) : Option (K × Int) → T → Option (K × Int)
  | b, nil => b
  | b, nd _ q s l r => if q.isPrefixOf A then find A (match s with | some v => some (q, v) | none => b) (if bitOf A q.length then r else l) else b
  termination_by _ t => t.size
  decreasing_by simp only [size]; split <;> omega
end T
end Go.Proofs.Ytjffikckddijmaa
