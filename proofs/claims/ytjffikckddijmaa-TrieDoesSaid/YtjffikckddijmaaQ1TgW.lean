/-
  Chapter 7: what the laws lean on: rows compared; a list of prefixes told of; plain facts of lists.
-/
import Derived.Test.YtjffikckddijmaaQ1TgM
import Derived.Test.YtjffikckddijmaaQ1Allx5
import Derived.Test.YtjffikckddijmaaQ1Allx8
import Derived.Test.YtjffikckddijmaaQ1Allx10
import Derived.Test.YtjffikckddijmaaQ1Allx0
import Derived.Test.YtjffikckddijmaaQ1Allx7
import Derived.Test.YtjffikckddijmaaQ1MathC
import Derived.Test.YtjffikckddijmaaQ1MathD
namespace Go.Proofs.Ytjffikckddijmaa
open Go.RowKit Go.Proofs.YtjffikckddijmaaW.PrintWords Go.Proofs.YtjffikckddijmaaW.PrintLast Go.Proofs.YtjffikckddijmaaW.PrintMore
open All All.BM
set_option linter.unusedVariables false
set_option linter.unusedSimpArgs false
theorem insL_length : ∀ (l : Es) (p : K) (v : Int), (insL l p v).length ≤ l.length + 1
  | [], _, _ => by simp [insL]
  | e :: t, p, v => by
    have := insL_length t p v
    unfold insL
    split
    · simp
    · split
      · simp
      · simp; omega
theorem mem_ks {L : Es} {p : K} : p ∈ ks L ↔ ∃ v, (p, v) ∈ L := by
  unfold ks
  constructor
  · intro h
    obtain ⟨⟨k, v⟩, h1, rfl⟩ := List.mem_map.1 h
    exact ⟨v, h1⟩
  · rintro ⟨v, h⟩
    exact List.mem_map.2 ⟨_, h, rfl⟩
theorem putL_bad {L : Es} {room : Nat} {a n : Int} (hp : ¬ isPre a n) (v : Int) : putL L room a n v = (1, L) := by
  unfold putL
  rw [if_neg hp]
theorem putL_length (L : Es) (room : Nat) (a n v : Int) : (putL L room a n v).2.length ≤ L.length + 1 := by
  have := insL_length L (kOf a n) v
  unfold putL
  split
  · split
    · exact this
    · simp
  · simp
def put1 (room : Nat) (L : Es) (e : S33) : Es := (putL L room e.f0.f0 e.f0.f1 e.f1).2
def putAll (room : Nat) (l : List S33) : Es := l.foldl (put1 room) []
theorem rd_some (l : List S33) (j : Int) (h0 : 0 ≤ j) (h1 : j < l.length) : l[j.toNat]? = some (rd_T33 l j) := by
  have hj : j.toNat < l.length := by omega
  rw [rd_T33, List.getD_eq_getElem?_getD, List.getElem?_eq_getElem hj]; rfl
theorem ents3_length (M : Es) : (ents3 M).length = M.length := by simp [ents3]
theorem rd_ents {M : Es} (i : Int) (h0 : 0 ≤ i) (h1 : i < ((ents3 M).length : Int)) : ∃ e, M[i.toNat]? = some e ∧ rd_T33 (ents3 M) i = entS e := by
  have h := rd_some (ents3 M) i h0 h1
  unfold ents3 at h ⊢
  rw [List.getElem?_map] at h
  cases hM : M[i.toNat]? with
  | none => rw [hM] at h; cases h
  | some e => rw [hM] at h; exact ⟨e, rfl, (Option.some.inj h).symm⟩
theorem mem_of_get {M : Es} {n : Nat} {e : K × Int} (h : M[n]? = some e) : e ∈ M := List.mem_of_getElem? h
theorem same_go (a b : List S33) (hl : b.length = a.length) : ∀ (d : Nat) (i : Nat), i + d = a.length → a.length ≤ 2000 → ∀ k, d < k → ∃ r, wayfinderref07_Same.l0 k a b (i : Int) = some r ∧ (a = b → r = true)
  | 0, i, hd, _, k + 1, _ => by
    refine ⟨true, ?_, fun _ => rfl⟩
    rw [wayfinderref07_Same.l0, if_neg (by omega)]
  | d + 1, i, hd, hs, k + 1, hk => by
    have ih := same_go a b hl d (i + 1) (by omega) hs k (by omega)
    rw [wayfinderref07_Same.l0, if_pos (by omega), if_pos (by omega), if_pos (by omega)]
    split
    · rename_i hne
      refine ⟨false, rfl, fun e => ?_⟩
      subst e
      simp at hne
    · have hw : wrap64 ((i : Int) + 1) = ((i + 1 : Nat) : Int) := by
        unfold wrap64
        push_cast
        omega
      rw [hw]
      exact ih
theorem same_f (a b : List S33) (hs : a.length ≤ 2000) : ∃ k r, wayfinderref07_Same.f k a b = some r ∧ (a = b → r = true) := by
  refine ⟨a.length + 1, ?_⟩
  unfold wayfinderref07_Same.f
  split
  · rename_i h
    exact same_go a b (by omega) a.length 0 (by omega) hs _ (by omega)
  · exact ⟨false, rfl, fun e => by subst e; omega⟩
theorem same_calls {A0 A1 : Option Addr} {c0 c1 : Nat} {a b : List S33} {w : World} (h0 : Kd.C k33 w A0 a.length a) (hc0 : a.length ≤ c0) (h1 : Kd.C k33 w A1 b.length b) (hc1 : b.length ≤ c1) (hs : a.length ≤ 2000) :
    Calls Try.prog 15 #[.slice A0 a.length c0, .slice A1 b.length c1] w fun e w' => ∃ r, e = .returned (.bool r) ∧ (a = b → r = true) ∧ Drawn0 w w' := by
  obtain ⟨k, r, hf, hr⟩ := same_f a b hs
  exact (wayfinderref07_Same.calls k A0 c0 a A1 c1 b r w h0 hc0 h1 hc1 hf).mono fun e w' ⟨he, hd⟩ => ⟨r, he, hr, hd⟩
theorem same_eq {A0 A1 : Option Addr} {c0 c1 : Nat} {a : List S33} {w : World} (h0 : Kd.C k33 w A0 a.length a) (hc0 : a.length ≤ c0) (h1 : Kd.C k33 w A1 a.length a) (hc1 : a.length ≤ c1) (hs : a.length ≤ 2000) :
    Calls Try.prog 15 #[.slice A0 a.length c0, .slice A1 a.length c1] w fun e w' => e = .returned (.bool true) ∧ Drawn0 w w' :=
  (same_calls h0 hc0 h1 hc1 hs).mono fun e w' ⟨r, he, hr, hd⟩ => ⟨by rw [he, hr rfl], hd⟩
end Go.Proofs.Ytjffikckddijmaa
namespace Go.Proofs.Ytjffikckddijmaa
open Go.RowKit Go.Proofs.YtjffikckddijmaaW.PrintWords Go.Proofs.YtjffikckddijmaaW.PrintLast Go.Proofs.YtjffikckddijmaaW.PrintMore
open All All.BM
set_option linter.unusedVariables false
set_option linter.unusedSimpArgs false
end Go.Proofs.Ytjffikckddijmaa
namespace Go.Proofs.Ytjffikckddijmaa
open Go.RowKit Go.Proofs.YtjffikckddijmaaW.PrintWords Go.Proofs.YtjffikckddijmaaW.PrintLast Go.Proofs.YtjffikckddijmaaW.PrintMore
open All All.BM
set_option linter.unusedVariables false
set_option linter.unusedSimpArgs false
theorem rd_at {M : Es} {i : Nat} {e : K × Int} (h : M[i]? = some e) : rd_T33 (ents3 M) (i : Int) = entS e := by
  unfold rd_T33 ents3
  rw [List.getD_eq_getElem?_getD, Int.toNat_natCast, List.getElem?_map, h]; rfl
theorem wrap_succ {i : Nat} (h : i < 100000) : wrap64 ((i : Int) + 1) = ((i + 1 : Nat) : Int) := by
  unfold wrap64
  push_cast
  omega
theorem key_eq {p q : K} (hp : p.length ≤ 32) (hq : q.length ≤ 32) : (((ad q : Int) == (ad p : Int)) && ((q.length : Int) == (p.length : Int))) = decide (q = p) := by
  by_cases h : q = p
  · subst h; simp
  · rw [decide_eq_false h, Bool.and_eq_false_iff]
    by_cases hl : q.length = p.length
    · left
      rw [beq_eq_false_iff_ne]
      intro e
      exact h (ad_inj hq hl (by omega))
    · right
      rw [beq_eq_false_iff_ne]
      omega
theorem less_f {p q : K} (hp : p.length ≤ 32) (hq : q.length ≤ 32) : wayfinderref07_less.f (ad p : Int) (p.length : Int) (ad q : Int) (q.length : Int) = some (lt p q) := by
  have h := lt_iff hp hq
  unfold wayfinderref07_less.f
  split
  · rename_i e
    congr 1
    rw [Bool.eq_iff_iff, decide_eq_true_iff, h]
    omega
  · rename_i e
    congr 1
    rw [Bool.eq_iff_iff, decide_eq_true_iff, h]
    omega
theorem get_mid {P R : Es} {e : K × Int} : (P ++ e :: R)[P.length]? = some e := by simp
theorem delL_over {R : Es} {p : K} (h : ∀ e ∈ R, e.1 ≠ p) : delL R p = R := by
  unfold delL
  rw [List.filter_eq_self]
  intro e he
  simpa using h e he
theorem ents3_snoc (l : List S33) (e : K × Int) (R : Es) : (l ++ [entS e]) ++ ents3 R = l ++ ents3 (e :: R) := by simp [ents3]
theorem with_done {p : K} (hp : p.length ≤ 32) (v : Int) : ∀ (R P : Es) (out : List S33) (k : Nat), (∀ e ∈ P ++ R, e.1.length ≤ 32) → (P ++ R).length ≤ 1000 → out.length + R.length ≤ 3000 → 2 * R.length < k →
    wayfinderref07_with.l0 k (ents3 (P ++ R)) out true (P.length : Int) (ad p : Int) (p.length : Int) v = some (out ++ ents3 (delL R p))
  | [], P, out, k + 1, hL, hl, ho, hk => by
    rw [wayfinderref07_with.l0, if_neg (by simp [ents3])]
    simp [ents3, delL]
  | e :: R, P, out, k + 2, hL, hl, ho, hk => by
    have he : e.1.length ≤ 32 := hL e (by simp)
    have hrd := rd_at (get_mid (P := P) (R := R) (e := e))
    have hlen : (P.length : Int) < ((ents3 (P ++ e :: R)).length : Int) := by rw [ents3_length]; simp; omega
    simp only [List.length_append, List.length_cons] at hl ho hk
    have ih := fun out' k' h1 h2 => with_done hp v R (P ++ [e]) out' k' (by intro x hx; exact hL x (by simpa using hx)) (by simp; omega) h1 h2
    rw [List.append_assoc, List.singleton_append, List.length_append, List.length_singleton] at ih
    have hq := key_eq hp he
    have hls : wayfinderref07_less.f (ad p : Int) (p.length : Int) (rd_T33 (ents3 (P ++ e :: R)) (P.length : Int)).f0.f0 (rd_T33 (ents3 (P ++ e :: R)) (P.length : Int)).f0.f1 = some (lt p e.1) := by rw [hrd]; exact less_f hp he
    have hc2 : ((!((rd_T33 (ents3 (P ++ e :: R)) (P.length : Int)).f0.f0 == (ad p : Int))) || (!((rd_T33 (ents3 (P ++ e :: R)) (P.length : Int)).f0.f1 == (p.length : Int)))) = !decide (e.1 = p) := by
      rw [← Bool.not_and, hrd]; exact congrArg _ hq
    have hel : (⟨⟨(rd_T33 (ents3 (P ++ e :: R)) (P.length : Int)).f0.f0, (rd_T33 (ents3 (P ++ e :: R)) (P.length : Int)).f0.f1⟩, (rd_T33 (ents3 (P ++ e :: R)) (P.length : Int)).f1⟩ : S33) = entS e := by rw [hrd]
    rw [wayfinderref07_with.l0, if_pos hlen, if_pos (by omega), hls, Option.bind_some, if_pos rfl]
    rw [wayfinderref07_with.j1, if_neg (by simp), if_pos (by omega), if_pos hlen, wrap_succ (by omega)]
    by_cases h : e.1 = p
    · rw [if_neg (by rw [hc2, decide_eq_true h]; simp), ih _ _ (by omega) (by omega)]
      congr 1
      simp [delL, h]
    · rw [if_pos (by rw [hc2, decide_eq_false h]; rfl), if_pos (by omega), hel, ih _ _ (by simp; omega) (by omega)]
      congr 1
      have hd : delL (e :: R) p = e :: delL R p := by simp [delL, h]
      rw [hd]
      exact ents3_snoc out e (delL R p)
theorem with_go {p : K} (hp : p.length ≤ 32) (v : Int) : ∀ (R P : Es) (out : List S33) (k : Nat), Srt R → (∀ e ∈ P ++ R, e.1.length ≤ 32) → (P ++ R).length ≤ 1000 → out.length + R.length ≤ 2000 → 2 * R.length < k →
    wayfinderref07_with.l0 k (ents3 (P ++ R)) out false (P.length : Int) (ad p : Int) (p.length : Int) v = some (out ++ ents3 (insL R p v))
  | [], P, out, k + 1, hs, hL, hl, ho, hk => by
    rw [wayfinderref07_with.l0, if_neg (by simp [ents3]), if_neg (by simp), if_pos (by simp at ho; omega)]
    simp [ents3, insL, entS]
  | e :: R, P, out, k + 2, hs, hL, hl, ho, hk => by
    have he : e.1.length ≤ 32 := hL e (by simp)
    obtain ⟨hs1, hs2⟩ := List.pairwise_cons.1 hs
    have hrd := rd_at (get_mid (P := P) (R := R) (e := e))
    have hlen : (P.length : Int) < ((ents3 (P ++ e :: R)).length : Int) := by rw [ents3_length]; simp; omega
    simp only [List.length_append, List.length_cons] at hl ho hk
    have ih := fun out' k' h1 h2 => with_go hp v R (P ++ [e]) out' k' hs2 (by intro x hx; exact hL x (by simpa using hx)) (by simp; omega) h1 h2
    have id := fun out' k' h1 h2 => with_done hp v R (P ++ [e]) out' k' (by intro x hx; exact hL x (by simpa using hx)) (by simp; omega) h1 h2
    rw [List.append_assoc, List.singleton_append, List.length_append, List.length_singleton] at ih id
    have hq := key_eq hp he
    have hls : wayfinderref07_less.f (ad p : Int) (p.length : Int) (rd_T33 (ents3 (P ++ e :: R)) (P.length : Int)).f0.f0 (rd_T33 (ents3 (P ++ e :: R)) (P.length : Int)).f0.f1 = some (lt p e.1) := by rw [hrd]; exact less_f hp he
    have hc1 : ((rd_T33 (ents3 (P ++ e :: R)) (P.length : Int)).f0.f0 == (ad p : Int) && ((rd_T33 (ents3 (P ++ e :: R)) (P.length : Int)).f0.f1 == (p.length : Int))) = decide (e.1 = p) := by
      rw [hrd]; exact hq
    have hc2 : ((!((rd_T33 (ents3 (P ++ e :: R)) (P.length : Int)).f0.f0 == (ad p : Int))) || (!((rd_T33 (ents3 (P ++ e :: R)) (P.length : Int)).f0.f1 == (p.length : Int)))) = !decide (e.1 = p) := by
      rw [← Bool.not_and, hrd]; exact congrArg _ hq
    have hel : (⟨⟨(rd_T33 (ents3 (P ++ e :: R)) (P.length : Int)).f0.f0, (rd_T33 (ents3 (P ++ e :: R)) (P.length : Int)).f0.f1⟩, (rd_T33 (ents3 (P ++ e :: R)) (P.length : Int)).f1⟩ : S33) = entS e := by rw [hrd]
    rw [wayfinderref07_with.l0, if_pos hlen, if_pos (by omega), hls, Option.bind_some, if_neg (by simp)]
    by_cases h : e.1 = p
    · have hlt : lt p e.1 = false := by rw [h]; exact lt_irrefl p
      have hd : delL R p = R := delL_over fun x hx e2 => by have := hs1 x hx; rw [h, e2, lt_irrefl] at this; cases this
      rw [hlt, if_neg (by simp), hc1, decide_eq_true h, wayfinderref07_with.j1, if_pos rfl, if_pos (by omega), Option.bind_some]
      rw [if_pos (by omega), if_pos hlen, if_neg (by rw [hc2, decide_eq_true h]; simp), wrap_succ (by omega), id _ _ (by simp; omega) (by omega), hd]
      congr 1
      have hi : insL (e :: R) p v = (p, v) :: R := by simp [insL, h]
      rw [hi]
      exact ents3_snoc out (p, v) R
    · cases hlt : lt p e.1
      · rw [if_neg (by simp), hc1, decide_eq_false h, wayfinderref07_with.j1, if_neg (by simp), if_pos (by omega), if_pos hlen]
        rw [if_pos (by rw [hc2, decide_eq_false h]; rfl), if_pos (by omega), hel, wrap_succ (by omega), ih _ _ (by simp; omega) (by omega)]
        congr 1
        have hi : insL (e :: R) p v = e :: insL R p v := by simp [insL, h, hlt]
        rw [hi]
        exact ents3_snoc out e (insL R p v)
      · have hd : delL R p = R := delL_over fun x hx e2 => by have := lt_trans hlt (hs1 x hx); rw [e2, lt_irrefl] at this; cases this
        rw [if_pos rfl, wayfinderref07_with.j1, if_pos rfl, if_pos (by omega), Option.bind_some]
        rw [if_pos (by omega), if_pos hlen, if_pos (by rw [hc2, decide_eq_false h]; rfl), if_pos (by simp; omega), hel, wrap_succ (by omega), id _ _ (by simp; omega) (by omega), hd]
        congr 1
        have hi : insL (e :: R) p v = (p, v) :: e :: R := by simp [insL, h, hlt]
        rw [hi]
        have h1 := ents3_snoc (out ++ [entS (p, v)]) e R
        have h2 := ents3_snoc out (p, v) (e :: R)
        rw [← h2, ← h1]
        rfl
theorem with_f {L : Es} (hs : Srt L) (hL : ∀ e ∈ L, e.1.length ≤ 32) (hl : L.length ≤ 1000) {a n : Int} (hp : isPre a n) (v : Int) : wayfinderref07_with.f 2100 (ents3 L) a n v = some (ents3 (insL L (kOf a n) v)) := by
  obtain ⟨h1, h2, h3⟩ := kOf_spec hp
  have h := with_go h1 v L [] [] 2100 hs hL hl (by simp; omega) (by omega)
  unfold wayfinderref07_with.f
  rw [← h2, ← h3] at h
  exact h
end Go.Proofs.Ytjffikckddijmaa
namespace Go.Proofs.Ytjffikckddijmaa
open Go.RowKit Go.Proofs.YtjffikckddijmaaW.PrintWords Go.Proofs.YtjffikckddijmaaW.PrintLast Go.Proofs.YtjffikckddijmaaW.PrintMore
open All All.BM
set_option linter.unusedVariables false
set_option linter.unusedSimpArgs false
def preS (q : K) : S31 := ⟨(ad q : Int), (q.length : Int)⟩
def preL (Q : List K) : List S31 := Q.map preS
theorem within_f {p q : K} (hp : p.length ≤ 32) (hq : q.length ≤ 32) {k : Nat} (hk : 80 ≤ k) : wayfinderref01_Within.f k (ad p : Int) (p.length : Int) (ad q : Int) (q.length : Int) = some (p.isPrefixOf q) := by
  rw [r_Within k hk]
  congr 1
  rw [Bool.eq_iff_iff, decide_eq_true_iff, List.isPrefixOf_iff_prefix, bd_nat _ hp]
  have h1 := pre_K32 hp (ad q : Int)
  rw [K32_ad hq] at h1
  constructor
  · rintro ⟨_, _, h2, h3⟩
    exact List.prefix_of_prefix_length_le (h1.2 (by omega)) (List.prefix_append q _) (by omega)
  · intro h
    refine ⟨key_isPre hp, key_isPre hq, by have := h.length_le; omega, ?_⟩
    have := h1.1 (h.trans (List.prefix_append q _))
    omega
theorem cut_f {p : K} (hp : p.length ≤ 32) {c : Nat} (hc : c ≤ p.length) {k : Nat} (hk : 80 ≤ k) : wayfinderref01_Cut.f k (ad p : Int) (c : Int) = some ((ad (p.take c) : Int), (c : Int)) := by
  rw [r_Cut k hk, lo_ad hp, bd_nat c (by omega), ad_cut hp hc]
theorem take_lcp (p q : K) : p.take (lcp p q).length = lcp p q := by
  have := lcp_left p q
  rw [List.prefix_iff_eq_take] at this
  exact this.symm
theorem common_f {p q : K} (hp : p.length ≤ 32) (hq : q.length ≤ 32) {k : Nat} (hk : 80 ≤ k) : wayfinderref07_common.f k (ad p : Int) (p.length : Int) (ad q : Int) (q.length : Int) = some ((ad (lcp p q) : Int), ((lcp p q).length : Int)) := by
  have h := com_lcp hp hq
  have ht := take_lcp p q
  unfold wayfinderref07_common.f
  rw [r_Common k hk, lo_ad hp, lo_ad hq, Option.bind_some]
  have hc : ∀ c : Nat, c = (lcp p q).length → wayfinderref01_Cut.f k (ad p : Int) (c : Int) = some ((ad (lcp p q) : Int), ((lcp p q).length : Int)) := by
    rintro c rfl
    rw [cut_f hp (lcp_left p q).length_le hk, ht]
  split
  · split
    · rw [hc q.length (by omega)]; rfl
    · rw [hc p.length (by omega)]; rfl
  · split
    · rw [hc q.length (by omega)]; rfl
    · rw [hc _ (by omega)]; rfl
def addK (Q : List K) (q : K) : List K := if q ∈ Q then Q else Q ++ [q]
theorem add_go {p : K} (hp : p.length ≤ 32) : ∀ (R P : List K) (k : Nat), (∀ e ∈ P ++ R, e.length ≤ 32) → (P ++ R).length ≤ 20000 → p ∉ P → R.length < k →
    wayfinderref07_add.l0 k (preL (P ++ R)) (P.length : Int) (ad p : Int) (p.length : Int) = some (preL (addK (P ++ R) p))
  | [], P, k + 1, hL, hl, hn, hk => by
    simp only [List.append_nil] at hl ⊢
    rw [wayfinderref07_add.l0, if_neg (by simp [preL]), if_pos (by simp [preL]; omega)]
    simp only [Option.bind_some, List.nil_append]
    rw [if_pos (by simp [preL]; omega)]
    unfold addK
    rw [if_neg hn]
    simp [preL, preS]
  | e :: R, P, k + 1, hL, hl, hn, hk => by
    have he : e.length ≤ 32 := hL e (by simp)
    have hrd : rd_T31 (preL (P ++ e :: R)) (P.length : Int) = preS e := by
      unfold rd_T31 preL
      rw [List.getD_eq_getElem?_getD, Int.toNat_natCast, List.getElem?_map]
      simp
    have hlen : (P.length : Int) < ((preL (P ++ e :: R)).length : Int) := by simp [preL]; omega
    simp only [List.length_append, List.length_cons] at hl hk
    have hq : (((rd_T31 (preL (P ++ e :: R)) (P.length : Int)).f0 == (ad p : Int)) && ((rd_T31 (preL (P ++ e :: R)) (P.length : Int)).f1 == (p.length : Int))) = decide (e = p) := by
      rw [hrd]; exact key_eq hp he
    rw [wayfinderref07_add.l0, if_pos hlen, if_pos (by omega)]
    by_cases h : e = p
    · rw [if_pos (by rw [hq, decide_eq_true h])]
      unfold addK
      rw [if_pos (by simp [h])]
    · rw [if_neg (by rw [hq, decide_eq_false h]; simp), wrap_succ (by omega)]
      have ih := add_go hp R (P ++ [e]) k (by intro x hx; exact hL x (by simpa using hx)) (by simp; omega) (by simp [hn]; exact fun e2 => h e2.symm) (by omega)
      rw [List.append_assoc, List.singleton_append, List.length_append, List.length_singleton] at ih
      exact ih
theorem add_f {p : K} (hp : p.length ≤ 32) {Q : List K} (hQ : ∀ e ∈ Q, e.length ≤ 32) (hl : Q.length ≤ 20000) {k : Nat} (hk : Q.length < k) : wayfinderref07_add.f k (preL Q) (ad p : Int) (p.length : Int) = some (preL (addK Q p)) := by
  have h := add_go hp Q [] k hQ hl (by simp) hk
  exact h
def stepI (q : K) (Q : List K) (x : K) : List K := if q.isPrefixOf x || x.isPrefixOf q then Q else addK Q (lcp q x)
def outK : List K → List K → List K → List K
  | _, [], Q => Q
  | P, q :: R, Q => outK (P ++ [q]) R (P.foldl (stepI q) (addK Q q))
theorem addK_facts {Q : List K} {q : K} (hQ : ∀ e ∈ Q, e.length ≤ 32) (hq : q.length ≤ 32) : (∀ e ∈ addK Q q, e.length ≤ 32) ∧ (addK Q q).length ≤ Q.length + 1 := by
  unfold addK
  split
  · exact ⟨hQ, by omega⟩
  · refine ⟨fun e he => ?_, by simp⟩
    rcases List.mem_append.1 he with h | h
    · exact hQ e h
    · simp at h; rw [h]; exact hq
theorem nodes_l1 {L : Es} (hL : ∀ e ∈ L, e.1.length ≤ 32) (hl : L.length ≤ 100) {P R : Es} {q : K × Int} (hLe : L = P ++ q :: R) {res : List K → Int} {B : Nat}
    (hnext : ∀ (Q : List K) (k : Nat), (∀ e ∈ Q, e.length ≤ 32) → Q.length + R.length * 101 ≤ 12000 → B < k → wayfinderref07_Nodes.l0 k (ents3 L) (preL Q) ((P.length + 1 : Nat) : Int) = some (res Q)) :
    ∀ (T S : Es) (Q : List K) (k : Nat), P = S ++ T → (∀ e ∈ Q, e.length ≤ 32) → Q.length + T.length + R.length * 101 ≤ 12000 → B + 2 * T.length + 13000 < k →
    wayfinderref07_Nodes.l1 k (ents3 L) (preL Q) (P.length : Int) (S.length : Int) = some (res ((ks T).foldl (stepI q.1) Q))
  | [], S, Q, k + 1, hP, hQ, hb, hk => by
    simp only [List.append_nil] at hP
    subst hP
    rw [wayfinderref07_Nodes.l1, if_neg (by omega), wrap_succ (by have : P.length ≤ L.length := by rw [hLe]; simp
                                                                  omega)]
    exact hnext Q k hQ (by simpa using hb) (by simp at hk; omega)
  | x :: T, S, Q, k + 2, hP, hQ, hb, hk => by
    have hlen : L.length = P.length + R.length + 1 := by rw [hLe]; simp; omega
    have hPl : P.length = S.length + T.length + 1 := by rw [hP]; simp; omega
    have hq : q.1.length ≤ 32 := hL q (by rw [hLe]; simp)
    have hx : x.1.length ≤ 32 := hL x (by rw [hLe, hP]; simp)
    have r1 : rd_T33 (ents3 L) (P.length : Int) = entS q := rd_at (by rw [hLe]; simp)
    have r2 : rd_T33 (ents3 L) (S.length : Int) = entS x := rd_at (by rw [hLe, hP]; simp)
    simp only [List.length_cons] at hb hk
    have ih := fun Q' k' h1 h2 h3 => nodes_l1 hL hl hLe hnext T (S ++ [x]) Q' k' (by rw [hP]; simp) h1 h2 h3
    rw [List.length_append, List.length_singleton] at ih
    have hw1 := within_f hq hx (k := k + 1) (by omega)
    have hw2 := within_f hx hq (k := k + 1) (by omega)
    have e3 := ents3_length L
    rw [wayfinderref07_Nodes.l1, if_pos (by omega), if_pos (by omega), if_pos (by omega), if_pos (by omega), if_pos (by omega), r1, r2]
    show (wayfinderref01_Within.f (k + 1) (ad q.1 : Int) (q.1.length : Int) (ad x.1 : Int) (x.1.length : Int)).bind _ = _
    rw [hw1, Option.bind_some]
    show (wayfinderref01_Within.f (k + 1) (ad x.1 : Int) (x.1.length : Int) (ad q.1 : Int) (q.1.length : Int)).bind _ = _
    rw [hw2, Option.bind_some]
    have hfold : (ks (x :: T)).foldl (stepI q.1) Q = (ks T).foldl (stepI q.1) (stepI q.1 Q x.1) := rfl
    rw [hfold]
    cases h1 : q.1.isPrefixOf x.1 <;> cases h2 : x.1.isPrefixOf q.1
    · rw [if_neg (by simp), wayfinderref07_Nodes.j2, if_pos (by decide), if_pos (by omega), if_pos (by omega), if_pos (by omega), if_pos (by omega), r1, r2]
      show (wayfinderref07_common.f k (ad q.1 : Int) (q.1.length : Int) (ad x.1 : Int) (x.1.length : Int)).bind _ = _
      have hll : (lcp q.1 x.1).length ≤ 32 := Nat.le_trans (lcp_left _ _).length_le hq
      have hs : stepI q.1 Q x.1 = addK Q (lcp q.1 x.1) := by unfold stepI; rw [h1, h2]; rfl
      rw [common_f hq hx (by omega), Option.bind_some]
      show (wayfinderref07_add.f k (preL Q) (ad (lcp q.1 x.1) : Int) ((lcp q.1 x.1).length : Int)).bind _ = _
      have ha := addK_facts hQ hll
      rw [add_f hll hQ (by omega) (by omega), Option.bind_some, wrap_succ (by omega), hs]
      exact ih _ _ ha.1 (by omega) (by omega)
    · have hs : stepI q.1 Q x.1 = Q := by unfold stepI; rw [h1, h2]; rfl
      rw [hs, if_neg (by simp), wayfinderref07_Nodes.j2, if_neg (by simp), wrap_succ (by omega)]
      exact ih _ _ hQ (by omega) (by omega)
    · have hs : stepI q.1 Q x.1 = Q := by unfold stepI; rw [h1, h2]; rfl
      rw [hs, if_pos rfl, wayfinderref07_Nodes.j2, if_neg (by simp), wrap_succ (by omega)]
      exact ih _ _ hQ (by omega) (by omega)
    · have hs : stepI q.1 Q x.1 = Q := by unfold stepI; rw [h1, h2]; rfl
      rw [hs, if_pos rfl, wayfinderref07_Nodes.j2, if_neg (by simp), wrap_succ (by omega)]
      exact ih _ _ hQ (by omega) (by omega)
theorem nodes_l0 {L : Es} (hL : ∀ e ∈ L, e.1.length ≤ 32) (hl : L.length ≤ 100) : ∀ (R P : Es) (Q : List K) (k : Nat), L = P ++ R → (∀ e ∈ Q, e.length ≤ 32) → Q.length + R.length * 101 ≤ 12000 → 14000 * (R.length + 1) < k →
    wayfinderref07_Nodes.l0 k (ents3 L) (preL Q) (P.length : Int) = some ((outK (ks P) (ks R) Q).length : Int)
  | [], P, Q, k + 1, hP, hQ, hb, hk => by
    simp only [List.append_nil] at hP
    subst hP
    rw [wayfinderref07_Nodes.l0, if_neg (by rw [ents3_length]; omega)]
    simp [preL, outK, ks]
  | q :: R, P, Q, k + 1, hP, hQ, hb, hk => by
    have hlen : L.length = P.length + R.length + 1 := by rw [hP]; simp; omega
    have hq : q.1.length ≤ 32 := hL q (by rw [hP]; simp)
    have r1 : rd_T33 (ents3 L) (P.length : Int) = entS q := rd_at (by rw [hP]; simp)
    have e3 := ents3_length L
    simp only [List.length_cons] at hb hk
    have ha := addK_facts hQ hq
    have ih := fun Q' k' h1 h2 h3 => nodes_l0 hL hl R (P ++ [q]) Q' k' (by rw [hP]; simp) h1 h2 h3
    rw [List.length_append, List.length_singleton] at ih
    have h := nodes_l1 hL hl hP (res := fun Q' => ((outK (ks (P ++ [q])) (ks R) Q').length : Int)) (B := 14000 * (R.length + 1)) (fun Q' k' h1 h2 h3 => ih Q' k' h1 h2 h3) P [] (addK Q q.1) k rfl ha.1 (by omega) (by omega)
    rw [wayfinderref07_Nodes.l0, if_pos (by omega), if_pos (by omega), r1]
    show (wayfinderref07_add.f k (preL Q) (ad q.1 : Int) (q.1.length : Int)).bind _ = _
    rw [add_f hq hQ (by omega) (by omega), Option.bind_some]
    refine Eq.trans h ?_
    simp [ks, outK]
def Npp (a b : K) : Prop := ¬ a <+: b ∧ ¬ b <+: a
theorem mem_addK (Q : List K) (q x : K) : x ∈ addK Q q ↔ x ∈ Q ∨ x = q := by
  unfold addK
  split
  · rename_i h
    exact ⟨.inl, fun h' => h'.elim id fun e => e ▸ h⟩
  · simp
theorem nodup_addK {Q : List K} (h : Q.Nodup) (q : K) : (addK Q q).Nodup := by
  unfold addK
  split
  · exact h
  · rename_i hn
    rw [List.nodup_append]
    exact ⟨h, by simp, fun a ha b hb e => by simp at hb; subst hb; exact hn (e ▸ ha)⟩
theorem mem_fold (q : K) : ∀ (T Q : List K), (Q.Nodup → (T.foldl (stepI q) Q).Nodup) ∧ ∀ x, x ∈ T.foldl (stepI q) Q ↔ x ∈ Q ∨ ∃ y ∈ T, Npp q y ∧ lcp q y = x
  | [], Q => ⟨id, fun x => by simp⟩
  | y :: T, Q => by
    obtain ⟨h1, h2⟩ := mem_fold q T (stepI q Q y)
    have hs : (Q.Nodup → (stepI q Q y).Nodup) ∧ ∀ x, x ∈ stepI q Q y ↔ x ∈ Q ∨ (Npp q y ∧ lcp q y = x) := by
      unfold stepI
      cases hp : (q.isPrefixOf y || y.isPrefixOf q)
      · rw [Bool.or_eq_false_iff] at hp
        have hN : Npp q y := ⟨fun h => by rw [List.isPrefixOf_iff_prefix.2 h] at hp; exact absurd hp.1 (by simp), fun h => by rw [List.isPrefixOf_iff_prefix.2 h] at hp; exact absurd hp.2 (by simp)⟩
        refine ⟨fun h => nodup_addK h _, fun x => ?_⟩
        simp only [Bool.false_eq_true, if_false]
        rw [mem_addK]
        exact ⟨fun h => h.elim .inl fun e => .inr ⟨hN, e.symm⟩, fun h => h.elim .inl fun e => .inr e.2.symm⟩
      · have hN : ¬ Npp q y := by
          rintro ⟨h3, h4⟩
          rw [Bool.or_eq_true, List.isPrefixOf_iff_prefix, List.isPrefixOf_iff_prefix] at hp
          exact hp.elim h3 h4
        refine ⟨id, fun x => ?_⟩
        simp only [if_true]
        exact ⟨.inl, fun h => h.elim id fun e => absurd e.1 hN⟩
    refine ⟨fun h => h1 (hs.1 h), fun x => ?_⟩
    rw [List.foldl_cons, h2, hs.2]
    constructor
    · rintro ((h | h) | ⟨z, hz, h⟩)
      · exact .inl h
      · exact .inr ⟨y, List.mem_cons_self, h⟩
      · exact .inr ⟨z, List.mem_cons_of_mem _ hz, h⟩
    · rintro (h | ⟨z, hz, h⟩)
      · exact .inl (.inl h)
      · rcases List.mem_cons.1 hz with rfl | hz
        · exact .inl (.inr h)
        · exact .inr ⟨z, hz, h⟩
theorem mem_outK : ∀ (R P Q : List K), (Q.Nodup → (outK P R Q).Nodup) ∧ ∀ x, x ∈ outK P R Q ↔ x ∈ Q ∨ x ∈ R ∨ (∃ a ∈ P, ∃ b ∈ R, Npp b a ∧ lcp b a = x) ∨ (∃ a ∈ R, ∃ b ∈ R, Npp b a ∧ lcp b a = x)
  | [], P, Q => ⟨id, fun x => by simp [outK]⟩
  | q :: R, P, Q => by
    obtain ⟨h1, h2⟩ := mem_outK R (P ++ [q]) (P.foldl (stepI q) (addK Q q))
    obtain ⟨h3, h4⟩ := mem_fold q P (addK Q q)
    refine ⟨fun h => h1 (h3 (nodup_addK h _)), fun x => ?_⟩
    show x ∈ outK (P ++ [q]) R (P.foldl (stepI q) (addK Q q)) ↔ _
    rw [h2, h4, mem_addK]
    constructor
    · rintro (((h | h) | ⟨y, hy, h⟩) | h | ⟨a, ha, b, hb, h⟩ | ⟨a, ha, b, hb, h⟩)
      · exact .inl h
      · exact .inr (.inl (by rw [h]; exact List.mem_cons_self))
      · exact .inr (.inr (.inl ⟨y, hy, q, List.mem_cons_self, h⟩))
      · exact .inr (.inl (List.mem_cons_of_mem _ h))
      · rcases List.mem_append.1 ha with ha | ha
        · exact .inr (.inr (.inl ⟨a, ha, b, List.mem_cons_of_mem _ hb, h⟩))
        · simp at ha; subst ha
          exact .inr (.inr (.inr ⟨a, List.mem_cons_self, b, List.mem_cons_of_mem _ hb, h⟩))
      · exact .inr (.inr (.inr ⟨a, List.mem_cons_of_mem _ ha, b, List.mem_cons_of_mem _ hb, h⟩))
    · rintro (h | h | ⟨a, ha, b, hb, h⟩ | ⟨a, ha, b, hb, h⟩)
      · exact .inl (.inl (.inl h))
      · rcases List.mem_cons.1 h with rfl | h
        · exact .inl (.inl (.inr rfl))
        · exact .inr (.inl h)
      · rcases List.mem_cons.1 hb with rfl | hb
        · exact .inl (.inr ⟨a, ha, h⟩)
        · exact .inr (.inr (.inl ⟨a, List.mem_append_left _ ha, b, hb, h⟩))
      · rcases List.mem_cons.1 ha with ea | ha' <;> rcases List.mem_cons.1 hb with eb | hb'
        · exact absurd (show b <+: a by rw [ea, eb]; exact List.prefix_rfl) h.1.1
        · exact .inr (.inr (.inl ⟨a, by rw [ea]; simp, b, hb', h⟩))
        · exact .inr (.inr (.inl ⟨b, by rw [eb]; simp, a, ha', ⟨h.1.2, h.1.1⟩, by rw [lcp_comm]; exact h.2⟩))
        · exact .inr (.inr (.inr ⟨a, ha', b, hb', h⟩))
theorem nodes_f {L : Es} (hL : ∀ e ∈ L, e.1.length ≤ 32) (hl : L.length ≤ 100) {k : Nat} (hk : 14000 * 101 < k) : wayfinderref07_Nodes.f k (ents3 L) = some (nod L : Int) := by
  have h := nodes_l0 hL hl L [] [] k rfl (by simp) (by simp; omega) (by omega)
  obtain ⟨h1, h2⟩ := mem_outK (ks L) [] []
  have h3 := nodK_eq (l := ks L) (h1 List.nodup_nil) (fun x => by
    rw [h2]
    constructor
    · rintro (h | h | ⟨a, ha, _⟩ | ⟨a, ha, b, hb, h4, h5⟩)
      · cases h
      · exact .inl h
      · cases ha
      · exact .inr ⟨b, a, hb, ha, h4.1, h4.2, h5⟩
    · rintro (h | ⟨a, b, ha, hb, h4, h5, h6⟩)
      · exact .inr (.inl h)
      · exact .inr (.inr (.inr ⟨b, hb, a, ha, ⟨h4, h5⟩, h6⟩)))
  unfold wayfinderref07_Nodes.f nod
  rw [← h3]
  exact h
end Go.Proofs.Ytjffikckddijmaa
