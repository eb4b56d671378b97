/-
  Chapter 7: what the laws lean on: rows compared; a list of prefixes told of; plain facts of lists.
-/
import Derived.Test.YtjffikckddijmaaTgM
import Derived.Test.YtjffikckddijmaaAllx5
namespace Go.Proofs.Ytjffikckddijmaa
open Go.RowKit Go.Proofs.YtjffikckddijmaaW.PrintWords Go.Proofs.YtjffikckddijmaaW.PrintLast Go.Proofs.YtjffikckddijmaaW.PrintMore
open All All.BM
set_option linter.unusedVariables false
set_option linter.unusedSimpArgs false
/-! ### Sorted lists -/
theorem insL_length : ∀ (l : Es) (p : K) (v : Int), (insL l p v).length ≤ l.length + 1
  | [], _, _ => by simp [insL]
  | e :: t, p, v => by
    have := insL_length t p v
    unfold insL
    split
    · simp
    · split
      · simp
      · simp; omega
theorem tree_of : ∀ {L : Es}, Srt L → ∃ t : T, t.WF ∧ t.ents = L
  | [], _ => ⟨.nil, trivial, rfl⟩
  | e :: L, h => by
    obtain ⟨h1, h2⟩ := List.pairwise_cons.1 h
    obtain ⟨t, ht, he⟩ := tree_of h2
    refine ⟨T.ins e.1 e.2 0 0 t, T.wf_ins ht, ?_⟩
    rw [T.ents_ins ht, he]
    refine Srt.ext (srt_insL h2 _ _) h fun ⟨k, u⟩ => ?_
    rw [mem_insL h2, List.mem_cons]
    constructor
    · rintro (⟨rfl, rfl⟩ | ⟨_, h⟩)
      · exact .inl rfl
      · exact .inr h
    · rintro (rfl | h)
      · exact .inl ⟨rfl, rfl⟩
      · refine .inr ⟨?_, h⟩
        rintro rfl
        have := h1 _ h
        simp [lt_irrefl] at this
theorem nod_le {L : Es} (h : Srt L) : L.length ≤ nod L ∧ nod L ≤ 2 * L.length := by
  obtain ⟨t, ht, rfl⟩ := tree_of h
  have := (T.size_lt ht).1
  exact ⟨by rw [← T.size_nod ht]; exact T.size_ge t, by rw [← T.size_nod ht]; exact this⟩
theorem insL_idem {L : Es} (h : Srt L) (p : K) (v : Int) : insL (insL L p v) p v = insL L p v := by
  have hs := srt_insL h p v
  refine Srt.ext (srt_insL hs p v) hs fun ⟨k, u⟩ => ?_
  rw [mem_insL hs, mem_insL h]
  constructor
  · rintro (h | ⟨_, h⟩)
    · exact .inl h
    · exact h
  · rintro (h | ⟨hn, h⟩)
    · exact .inl h
    · exact .inr ⟨hn, .inr ⟨hn, h⟩⟩
theorem mem_ks {L : Es} {p : K} : p ∈ ks L ↔ ∃ v, (p, v) ∈ L := by
  unfold ks
  constructor
  · intro h
    obtain ⟨⟨k, v⟩, h1, rfl⟩ := List.mem_map.1 h
    exact ⟨v, h1⟩
  · rintro ⟨v, h⟩
    exact List.mem_map.2 ⟨_, h, rfl⟩
theorem delL_insL {L : Es} (h : Srt L) {p : K} (v : Int) (hn : p ∉ ks L) : delL (insL L p v) p = L := by
  refine Srt.ext (srt_delL (srt_insL h p v) p) h fun ⟨k, u⟩ => ?_
  rw [mem_delL, mem_insL h]
  constructor
  · rintro ⟨⟨rfl, rfl⟩ | ⟨_, h⟩, hne⟩
    · exact absurd rfl hne
    · exact h
  · intro hm
    have : k ≠ p := by rintro rfl; exact hn (mem_ks.2 ⟨u, hm⟩)
    exact ⟨.inr ⟨this, hm⟩, this⟩
theorem ks_insL {L : Es} (h : Srt L) (p : K) (v : Int) (k : K) : k ∈ ks (insL L p v) ↔ k = p ∨ k ∈ ks L := by
  rw [mem_ks, mem_ks]
  constructor
  · rintro ⟨u, hu⟩
    rcases (mem_insL h p v k u).1 hu with ⟨rfl, _⟩ | ⟨_, hu⟩
    · exact .inl rfl
    · exact .inr ⟨u, hu⟩
  · intro hk
    by_cases e : k = p
    · exact ⟨v, (mem_insL h p v k v).2 (.inl ⟨e, rfl⟩)⟩
    · rcases hk with rfl | ⟨u, hu⟩
      · exact absurd rfl e
      · exact ⟨u, (mem_insL h p v k u).2 (.inr ⟨e, hu⟩)⟩
/-! ### Put, with room -/
theorem putL_ok {L : Es} (h : Srt L) (hl : L.length ≤ 400) {a n : Int} (hp : isPre a n) (v : Int) : putL L 1000 a n v = (0, insL L (kOf a n) v) := by
  have h1 := nod_le (srt_insL h (kOf a n) v)
  have h2 := insL_length L (kOf a n) v
  unfold putL
  rw [if_pos hp, if_pos (by omega)]
theorem putL_bad {L : Es} {room : Nat} {a n : Int} (hp : ¬ isPre a n) (v : Int) : putL L room a n v = (1, L) := by
  unfold putL
  rw [if_neg hp]
theorem srt_putL {L : Es} (h : Srt L) (room : Nat) (a n v : Int) : Srt (putL L room a n v).2 := by
  unfold putL
  split
  · split
    · exact srt_insL h _ _
    · exact h
  · exact h
theorem putL_length (L : Es) (room : Nat) (a n v : Int) : (putL L room a n v).2.length ≤ L.length + 1 := by
  have := insL_length L (kOf a n) v
  unfold putL
  split
  · split
    · exact this
    · simp
  · simp
def put1 (room : Nat) (L : Es) (e : S33) : Es := (putL L room e.f0.f0 e.f0.f1 e.f1).2
def putAll (room : Nat) (l : List S33) : Es := l.foldl (put1 room) []
theorem foldl_take {α β : Type} (f : β → α → β) (b : β) (l : List α) (i : Nat) (x : α) (h : l[i]? = some x) : (l.take (i + 1)).foldl f b = f ((l.take i).foldl f b) x := by
  obtain ⟨hi, rfl⟩ := List.getElem?_eq_some_iff.1 h
  rw [List.take_succ_eq_append_getElem hi, List.foldl_append]; rfl
theorem rd_some (l : List S33) (j : Int) (h0 : 0 ≤ j) (h1 : j < l.length) : l[j.toNat]? = some (rd_T33 l j) := by
  have hj : j.toNat < l.length := by omega
  rw [rd_T33, List.getD_eq_getElem?_getD, List.getElem?_eq_getElem hj]; rfl
theorem putAll_step (room : Nat) (l : List S33) (j : Int) (h0 : 0 ≤ j) (h1 : j < l.length) : putAll room (l.take (j + 1).toNat) = (putL (putAll room (l.take j.toNat)) room (rd_T33 l j).f0.f0 (rd_T33 l j).f0.f1 (rd_T33 l j).f1).2 := by
  have e : (j + 1).toNat = j.toNat + 1 := by omega
  rw [e]
  exact foldl_take _ _ _ _ _ (rd_some l j h0 h1)
theorem putAll_facts (room : Nat) (l : List S33) : Srt (putAll room l) ∧ (putAll room l).length ≤ l.length := by
  have : ∀ (l : List S33) (L : Es), Srt L → Srt (l.foldl (put1 room) L) ∧ (l.foldl (put1 room) L).length ≤ L.length + l.length := by
    intro l
    induction l with
    | nil => intro L h; exact ⟨h, by simp⟩
    | cons e l ih =>
      intro L h
      obtain ⟨h1, h2⟩ := ih (put1 room L e) (srt_putL h _ _ _ _)
      have h3 := putL_length L room e.f0.f0 e.f0.f1 e.f1
      refine ⟨h1, ?_⟩
      have h3' : (put1 room L e).length ≤ L.length + 1 := h3
      simp only [List.foldl_cons, List.length_cons]
      omega
  have h := this l [] List.Pairwise.nil
  refine ⟨h.1, ?_⟩
  have h2 := h.2
  simp only [List.length_nil, Nat.zero_add] at h2
  exact h2
/-- The next one is told of. -/
theorem putAll_calls {w W : World} {g : Nat} {l : List S33} {room : Nat} (j : Int) (h0 : 0 ≤ j) (h1 : j < l.length) (h : Sta w W g (putAll room (l.take j.toNat)) room) :
    Calls Try.prog 14 #[.pointer (some ⟨g, 0, none⟩), .agg #[.int .i64 (rd_T33 l j).f0.f0, .int .i64 (rd_T33 l j).f0.f1], .int .i64 (rd_T33 l j).f1] W fun e W' => (∃ c, e = .returned (.int .i64 c)) ∧ Sta w W' g (putAll room (l.take (j + 1).toNat)) room ∧ Kept W W' :=
  (put_st h _ _ _).mono fun e W' ⟨he, hs, hk⟩ => ⟨⟨_, he⟩, by rw [putAll_step room l j h0 h1]; exact hs, hk⟩
/-! ### One of those gone by -/
def is3 (x0 x1 x2 : Int) (y : S33) : Bool := (y.f0.f0 == x0 && (y.f0.f1 == x1)) && (y.f1 == x2)
def seen (c : S33 → Bool) (m : List S33) (j : Int) : Bool := (m.take j.toNat).any c
theorem seen_zero (c : S33 → Bool) (m : List S33) : seen c m 0 = false := by simp [seen]
theorem seen_step (c : S33 → Bool) (m : List S33) (j : Int) (h0 : 0 ≤ j) (h1 : j < m.length) : seen c m (j + 1) = (seen c m j || c (rd_T33 m j)) := by
  have e : (j + 1).toNat = j.toNat + 1 := by omega
  have hr := rd_some m j h0 h1
  obtain ⟨hi, hx⟩ := List.getElem?_eq_some_iff.1 hr
  unfold seen
  rw [e, List.take_succ_eq_append_getElem hi, hx, List.any_append]
  simp
theorem seen_all (c : S33 → Bool) (m : List S33) (j : Int) (h : (m.length : Int) ≤ j) : seen c m j = m.any c := by
  unfold seen
  rw [List.take_of_length_le (by omega)]
theorem seen_mem {M : Es} {p : K} {v : Int} (h : (p, v) ∈ M) {a n : Int} (ha : a = (ad p : Int)) (hn : n = (p.length : Int)) : (ents3 M).any (is3 a n v) = true := by
  refine List.any_eq_true.2 ⟨entS (p, v), List.mem_map.2 ⟨_, h, rfl⟩, ?_⟩
  simp [is3, entS, ha, hn]
theorem ents3_length (M : Es) : (ents3 M).length = M.length := by simp [ents3]
theorem row_K {w : World} {base n c : Nat} {A : Option Addr} {L : Es} (h : w.ownsRow base 33 3 (.slice A n c) L.length (rowsE L)) (hl : L.length ≤ 1000) : Kd.C k33 w A (ents3 L).length (ents3 L) := by
  obtain ⟨A', c', e, _, hK⟩ := row_C h hl
  cases e; exact hK
/-! ### The entries of a walk -/
theorem rd_ents {M : Es} (i : Int) (h0 : 0 ≤ i) (h1 : i < ((ents3 M).length : Int)) : ∃ e, M[i.toNat]? = some e ∧ rd_T33 (ents3 M) i = entS e := by
  have h := rd_some (ents3 M) i h0 h1
  unfold ents3 at h ⊢
  rw [List.getElem?_map] at h
  cases hM : M[i.toNat]? with
  | none => rw [hM] at h; cases h
  | some e => rw [hM] at h; exact ⟨e, rfl, (Option.some.inj h).symm⟩
theorem mem_of_get {M : Es} {n : Nat} {e : K × Int} (h : M[n]? = some e) : e ∈ M := List.mem_of_getElem? h
theorem srt_get {M : Es} (h : Srt M) {i j : Nat} {e f : K × Int} (he : M[i]? = some e) (hf : M[j]? = some f) (hij : i < j) : lt e.1 f.1 = true := by
  obtain ⟨hi, rfl⟩ := List.getElem?_eq_some_iff.1 he
  obtain ⟨hj, rfl⟩ := List.getElem?_eq_some_iff.1 hf
  exact List.pairwise_iff_getElem.1 h i j hi hj hij
theorem find_own {M : Es} {e : K × Int} (he : e ∈ M) (hl : e.1.length ≤ 32) {r : Option (K × Int)} (h : FindSpec (K32 (ad e.1 : Int)) M r) : ∃ f, r = some f ∧ e.1.length ≤ f.1.length := by
  have hp : e.1 <+: K32 (ad e.1 : Int) := by rw [K32_ad hl]; exact List.prefix_append _ _
  cases r with
  | none => exact absurd hp (h e he)
  | some f => exact ⟨f, rfl, h.2.2 e he hp⟩
theorem row_cells {W : World} {base n c : Nat} {A : Option Addr} {L : Es} (h : W.ownsRow base 33 3 (.slice A n c) L.length (rowsE L)) (hl : L.length ≤ 1000) (i : Int) (h0 : 0 ≤ i) (h1 : i < ((ents3 L).length : Int)) :
    ∃ b e, A = some b ∧ L[i.toNat]? = some e ∧ rd_T33 (ents3 L) i = entS e ∧ W.cell? (b.add (i.toNat * 3)) = some (.int .i64 (ad e.1 : Int)) ∧ W.cell? ⟨(b.add (i.toNat * 3)).block, (b.add (i.toNat * 3)).off + 1, none⟩ = some (.int .i64 (e.1.length : Int)) ∧ W.cell? ⟨(b.add (i.toNat * 3)).block, (b.add (i.toNat * 3)).off + 2, none⟩ = some (.int .i64 e.2) := by
  obtain ⟨e, he, hrd⟩ := rd_ents i h0 h1
  obtain ⟨b, rfl, r0, r1, r2⟩ := at_T33 (row_K h hl) i h0 h1
  rw [hrd] at r0 r1 r2
  exact ⟨b, e, rfl, he, hrd, r0, r1, r2⟩
theorem row_cells' {W : World} {base n c : Nat} {b : Addr} {L : Es} (h : W.ownsRow base 33 3 (.slice (some b) n c) L.length (rowsE L)) (hl : L.length ≤ 1000) (i : Int) (h0 : 0 ≤ i) (h1 : i < ((ents3 L).length : Int)) {e : K × Int} (he : L[i.toNat]? = some e) :
    W.cell? (b.add (i.toNat * 3)) = some (.int .i64 (ad e.1 : Int)) ∧ W.cell? ⟨(b.add (i.toNat * 3)).block, (b.add (i.toNat * 3)).off + 1, none⟩ = some (.int .i64 (e.1.length : Int)) ∧ W.cell? ⟨(b.add (i.toNat * 3)).block, (b.add (i.toNat * 3)).off + 2, none⟩ = some (.int .i64 e.2) := by
  obtain ⟨b', e', hb, he', _, r0, r1, r2⟩ := row_cells h hl i h0 h1
  cases hb
  rw [he'] at he
  cases he
  exact ⟨r0, r1, r2⟩
/-! ### Rows compared -/
theorem same_go (a b : List S33) (hl : b.length = a.length) : ∀ (d : Nat) (i : Nat), i + d = a.length → a.length ≤ 2000 → ∀ k, d < k → ∃ r, wayfinderref07_Same.l0 k a b (i : Int) = some r ∧ (a = b → r = true)
  | 0, i, hd, _, k + 1, _ => by
    refine ⟨true, ?_, fun _ => rfl⟩
    rw [wayfinderref07_Same.l0, if_neg (by omega)]
  | d + 1, i, hd, hs, k + 1, hk => by
    have ih := same_go a b hl d (i + 1) (by omega) hs k (by omega)
    rw [wayfinderref07_Same.l0, if_pos (by omega), if_pos (by omega), if_pos (by omega)]
    split
    · rename_i hne
      refine ⟨false, rfl, fun e => ?_⟩
      subst e
      simp at hne
    · have hw : wrap64 ((i : Int) + 1) = ((i + 1 : Nat) : Int) := by
        unfold wrap64
        push_cast
        omega
      rw [hw]
      exact ih
theorem same_f (a b : List S33) (hs : a.length ≤ 2000) : ∃ k r, wayfinderref07_Same.f k a b = some r ∧ (a = b → r = true) := by
  refine ⟨a.length + 1, ?_⟩
  unfold wayfinderref07_Same.f
  split
  · rename_i h
    exact same_go a b (by omega) a.length 0 (by omega) hs _ (by omega)
  · exact ⟨false, rfl, fun e => by subst e; omega⟩
theorem same_calls {A0 A1 : Option Addr} {c0 c1 : Nat} {a b : List S33} {w : World} (h0 : Kd.C k33 w A0 a.length a) (hc0 : a.length ≤ c0) (h1 : Kd.C k33 w A1 b.length b) (hc1 : b.length ≤ c1) (hs : a.length ≤ 2000) :
    Calls Try.prog 15 #[.slice A0 a.length c0, .slice A1 b.length c1] w fun e w' => ∃ r, e = .returned (.bool r) ∧ (a = b → r = true) ∧ Drawn0 w w' := by
  obtain ⟨k, r, hf, hr⟩ := same_f a b hs
  exact (wayfinderref07_Same.calls k A0 c0 a A1 c1 b r w h0 hc0 h1 hc1 hf).mono fun e w' ⟨he, hd⟩ => ⟨r, he, hr, hd⟩
theorem same_eq {A0 A1 : Option Addr} {c0 c1 : Nat} {a : List S33} {w : World} (h0 : Kd.C k33 w A0 a.length a) (hc0 : a.length ≤ c0) (h1 : Kd.C k33 w A1 a.length a) (hc1 : a.length ≤ c1) (hs : a.length ≤ 2000) :
    Calls Try.prog 15 #[.slice A0 a.length c0, .slice A1 a.length c1] w fun e w' => e = .returned (.bool true) ∧ Drawn0 w w' :=
  (same_calls h0 hc0 h1 hc1 hs).mono fun e w' ⟨r, he, hr, hd⟩ => ⟨by rw [he, hr rfl], hd⟩
end Go.Proofs.Ytjffikckddijmaa
