/-
  Chapter 7, plain facts: prefixes as bit lists; what package bits' functions tell of them.
-/
import Derived.Test.YtjffikckddijmaaQ1TgA
import Derived.Test.YtjffikckddijmaaQ1MathB
import Derived.Test.YtjffikckddijmaaQ1TgC
namespace Go.Proofs.Ytjffikckddijmaa
open Go.RowKit Go.Proofs.YtjffikckddijmaaW.PrintWords Go.Proofs.YtjffikckddijmaaW.PrintLast Go.Proofs.YtjffikckddijmaaW.PrintMore
open All All.BM
set_option linter.unusedVariables false
set_option linter.unusedSimpArgs false
def bv (b : Bool) : Nat := if b then 1 else 0
def num : K → Nat
  | [] => 0
  | b :: t => bv b * 2 ^ t.length + num t
theorem bv_le (b : Bool) : bv b ≤ 1 := by cases b <;> simp [bv]
theorem num_lt : ∀ p : K, num p < 2 ^ p.length
  | [] => by simp [num]
  | b :: t => by
    have h := num_lt t
    have hb := bv_le b
    have h1 : bv b * 2 ^ t.length ≤ 1 * 2 ^ t.length := Nat.mul_le_mul_right _ hb
    simp only [num, List.length_cons, Nat.pow_succ]
    omega
theorem num_append : ∀ p q : K, num (p ++ q) = num p * 2 ^ q.length + num q
  | [], q => by simp [num]
  | b :: t, q => by
    simp only [List.cons_append, num, num_append t q, List.length_append, Nat.pow_add, Nat.add_mul, Nat.mul_assoc, Nat.add_assoc]
theorem num_inj : ∀ {p q : K}, p.length = q.length → num p = num q → p = q
  | [], [], _, _ => rfl
  | [], _ :: _, h, _ => by simp at h
  | _ :: _, [], h, _ => by simp at h
  | a :: x, b :: y, hl, h => by
    have hl' : x.length = y.length := by simpa using hl
    have h1 := num_lt x
    have h2 := num_lt y
    simp only [num] at h
    rw [hl'] at h h1
    have hab : a = b := by
      cases a <;> cases b <;> simp [bv] at h ⊢ <;> omega
    subst hab
    rw [num_inj hl' (by omega)]
theorem num_zeros (n : Nat) : num (List.replicate n false) = 0 := by
  induction n with
  | zero => rfl
  | succ n ih => simp [List.replicate_succ, num, bv, ih]
def pad (p : K) : K := p ++ List.replicate (32 - p.length) false
def ad (p : K) : Nat := num p * 2 ^ (32 - p.length)
theorem pad_length {p : K} (h : p.length ≤ 32) : (pad p).length = 32 := by simp [pad]; omega
theorem ad_pad (p : K) : ad p = num (pad p) := by simp [pad, ad, num_append, num_zeros]
theorem num_top {A : K} (n : Nat) (hn : n ≤ A.length) : num A / 2 ^ (A.length - n) = num (A.take n) := by
  have h := num_append (A.take n) (A.drop n)
  rw [List.take_append_drop] at h
  have h1 := num_lt (A.drop n)
  rw [List.length_drop] at h h1
  rw [h, Nat.mul_comm, Nat.mul_add_div (Nat.two_pow_pos _), Nat.div_eq_of_lt h1, Nat.add_zero]
theorem ad_top {p : K} (h : p.length ≤ 32) {n : Nat} (hn : n ≤ 32) : ad p / 2 ^ (32 - n) = num ((pad p).take n) := by
  have := num_top (A := pad p) n (by rw [pad_length h]; exact hn)
  rwa [pad_length h, ← ad_pad] at this
theorem ad_lt {p : K} (h : p.length ≤ 32) : ad p < 4294967296 := by
  rw [ad_pad]
  have := num_lt (pad p)
  rw [pad_length h] at this
  simpa using this
theorem pad_take {p : K} {n : Nat} (hn : n ≤ p.length) : (pad p).take n = p.take n := by
  unfold pad
  rw [List.take_append_of_le_length hn]
theorem ad_inj {p q : K} (h : p.length ≤ 32) (hl : p.length = q.length) (he : ad p = ad q) : p = q := by
  refine num_inj hl ?_
  unfold ad at he
  rw [hl] at he
  exact Nat.eq_of_mul_eq_mul_right (Nat.two_pow_pos _) he
theorem take_snoc_num {A : K} {i : Nat} (hi : i < A.length) : num (A.take (i + 1)) = 2 * num (A.take i) + bv (A.getD i false) := by
  rw [List.take_succ_eq_append_getElem hi, num_append]
  simp [num, List.getD_eq_getElem?_getD, List.getElem?_eq_getElem hi]
  omega
theorem num_bit {A : K} (hA : A.length = 32) {i : Nat} (hi : i < 32) : bit (num A) i = bv (bitOf A i) := by
  unfold bit
  have h := num_top (A := A) (i + 1) (by omega)
  rw [hA, show 32 - (i + 1) = 31 - i by omega] at h
  rw [h, take_snoc_num (by omega)]
  have := bv_le (A.getD i false)
  unfold bitOf
  omega
theorem bitOf_pad (p : K) (i : Nat) : bitOf (pad p) i = bitOf p i := by
  unfold bitOf pad
  simp only [List.getD_eq_getElem?_getD]
  rcases Nat.lt_or_ge i p.length with h | h
  · rw [List.getElem?_append_left h]
  · rw [List.getElem?_append_right h, List.getElem?_eq_none h]
    simp only [List.getElem?_replicate]
    split <;> rfl
theorem take_of_pre {a p : K} (h : a <+: p) {n : Nat} (hn : n ≤ a.length) : p.take n = a.take n := by
  obtain ⟨t, rfl⟩ := h
  exact List.take_append_of_le_length hn
theorem le_lcp {p q : K} {n : Nat} : n ≤ (lcp p q).length ↔ n ≤ p.length ∧ n ≤ q.length ∧ p.take n = q.take n := by
  constructor
  · intro h
    have h1 := lcp_left p q
    have h2 := lcp_right p q
    refine ⟨by have := h1.length_le; omega, by have := h2.length_le; omega, ?_⟩
    have e1 : p.take n = (lcp p q).take n := take_of_pre h1 h
    have e2 : q.take n = (lcp p q).take n := take_of_pre h2 h
    rw [e1, e2]
  · rintro ⟨h1, h2, h3⟩
    have : p.take n <+: lcp p q := lcp_great (List.take_prefix n p) (by rw [h3]; exact List.take_prefix n q)
    have := this.length_le
    simp at this
    omega
theorem com_lcp {p q : K} (hp : p.length ≤ 32) (hq : q.length ≤ 32) : min (min (com (ad p) (ad q)) p.length) q.length = (lcp p q).length := by
  have key : ∀ n, n ≤ min (min (com (ad p) (ad q)) p.length) q.length ↔ n ≤ (lcp p q).length := by
    intro n
    rw [le_lcp]
    constructor
    · intro h
      have h1 : n ≤ com (ad p) (ad q) := by omega
      refine ⟨by omega, by omega, ?_⟩
      have h2 := (le_com_iff _ _ n (ad_lt hp) (ad_lt hq) (by omega)).1 h1
      rw [ad_top hp (by omega), ad_top hq (by omega), pad_take (by omega), pad_take (by omega)] at h2
      exact num_inj (by simp; omega) h2
    · rintro ⟨h1, h2, h3⟩
      have : n ≤ com (ad p) (ad q) := by
        rw [le_com_iff _ _ n (ad_lt hp) (ad_lt hq) (by omega), ad_top hp (by omega), ad_top hq (by omega), pad_take h1, pad_take h2, h3]
      omega
  exact Nat.le_antisymm ((key _).1 (Nat.le_refl _)) ((key _).2 (Nat.le_refl _))
theorem ad_cut {p : K} (hp : p.length ≤ 32) {c : Nat} (hc : c ≤ p.length) : cut (ad p) c = ad (p.take c) := by
  unfold cut
  rw [ad_top hp (by omega), pad_take hc]
  unfold ad
  simp only [List.length_take]
  rw [Nat.min_eq_left hc]
def toK : Nat → Nat → K
  | 0, _ => []
  | n + 1, x => (x / 2 ^ n == 1) :: toK n (x % 2 ^ n)
theorem toK_length : ∀ n x, (toK n x).length = n
  | 0, _ => rfl
  | n + 1, x => by simp [toK, toK_length n]
theorem num_toK : ∀ {n x : Nat}, x < 2 ^ n → num (toK n x) = x
  | 0, x, h => by simp at h; simp [toK, num, h]
  | n + 1, x, h => by
    have h1 : x / 2 ^ n < 2 := by rw [Nat.div_lt_iff_lt_mul (Nat.two_pow_pos _)]; rw [Nat.pow_succ] at h; omega
    have h2 := Nat.div_add_mod x (2 ^ n)
    simp only [toK, num, toK_length, num_toK (Nat.mod_lt _ (Nat.two_pow_pos n))]
    have h3 : ∀ y : Nat, y < 2 → bv (y == 1) = y := fun y hy => match y, hy with
      | 0, _ => rfl
      | 1, _ => rfl
    rw [h3 _ h1, Nat.mul_comm]; exact h2
def keyOf (a n : Nat) : K := toK n (a / 2 ^ (32 - n))
theorem keyOf_length (a n : Nat) : (keyOf a n).length = n := toK_length _ _
theorem top_lt {a n : Nat} (ha : a < 4294967296) (hn : n ≤ 32) : a / 2 ^ (32 - n) < 2 ^ n := by
  rw [Nat.div_lt_iff_lt_mul (Nat.two_pow_pos _), ← Nat.pow_add, show n + (32 - n) = 32 by omega]
  simpa using ha
theorem ad_keyOf {a n : Nat} (ha : a < 4294967296) (hn : n ≤ 32) : ad (keyOf a n) = cut a n := by
  unfold ad cut
  rw [keyOf_length]
  unfold keyOf
  rw [num_toK (top_lt ha hn)]
def K32 (a : Int) : K := toK 32 (lo a)
theorem K32_length (a : Int) : (K32 a).length = 32 := toK_length _ _
theorem num_K32 (a : Int) : num (K32 a) = lo a := num_toK (lo_lt a)
theorem pre_K32 {p : K} (h : p.length ≤ 32) (a : Int) : p <+: K32 a ↔ cut (lo a) p.length = ad p := by
  have hA := K32_length a
  have h1 := num_top (A := K32 a) p.length (by omega)
  rw [hA, num_K32] at h1
  unfold cut ad
  rw [h1]
  constructor
  · intro hp
    rw [List.prefix_iff_eq_take] at hp
    rw [← hp]
  · intro he
    have h2 := Nat.eq_of_mul_eq_mul_right (Nat.two_pow_pos _) he
    rw [List.prefix_iff_eq_take]
    exact (num_inj (by simp; omega) h2).symm
theorem num_order : ∀ (N : Nat) {p q : K}, p.length ≤ N → q.length ≤ N →
    (lt p q = true ↔ num p * 2 ^ (N - p.length) < num q * 2 ^ (N - q.length) ∨ (num p * 2 ^ (N - p.length) = num q * 2 ^ (N - q.length) ∧ p.length < q.length))
  | N, p, [], hp, _ => by
    cases p <;> simp [lt, num]
  | N, [], b :: y, _, hq => by
    simp only [lt, num, List.length_nil, List.length_cons, true_iff]
    simp
    omega
  | 0, a :: x, _ :: _, hp, _ => by simp at hp
  | N + 1, a :: x, b :: y, hp, hq => by
    have hx : x.length ≤ N := by simpa using hp
    have hy : y.length ≤ N := by simpa using hq
    have ih := num_order N hx hy
    have e : ∀ {z : K} (c : Bool), z.length ≤ N → num (c :: z) * 2 ^ (N + 1 - (c :: z).length) = bv c * 2 ^ N + num z * 2 ^ (N - z.length) := by
      intro z c hz
      simp only [num, List.length_cons, Nat.add_mul, Nat.mul_assoc, ← Nat.pow_add]
      rw [show z.length + (N + 1 - (z.length + 1)) = N by omega, show N + 1 - (z.length + 1) = N - z.length by omega]
    have lx : num x * 2 ^ (N - x.length) < 2 ^ N := by
      have := Nat.mul_lt_mul_of_pos_right (num_lt x) (Nat.two_pow_pos (N - x.length))
      rwa [← Nat.pow_add, show x.length + (N - x.length) = N by omega] at this
    have ly : num y * 2 ^ (N - y.length) < 2 ^ N := by
      have := Nat.mul_lt_mul_of_pos_right (num_lt y) (Nat.two_pow_pos (N - y.length))
      rwa [← Nat.pow_add, show y.length + (N - y.length) = N by omega] at this
    rw [e a hx, e b hy]
    generalize num x * 2 ^ (N - x.length) = u at *
    generalize num y * 2 ^ (N - y.length) = v at *
    cases a <;> cases b <;> simp [lt, bv, ih] <;> omega
theorem lt_iff {p q : K} (hp : p.length ≤ 32) (hq : q.length ≤ 32) : lt p q = true ↔ ad p < ad q ∨ (ad p = ad q ∧ p.length < q.length) := num_order 32 hp hq
theorem lo_ad {p : K} (h : p.length ≤ 32) : lo (ad p : Int) = ad p := lo_nat _ (ad_lt h)
theorem t_common {p q : K} (hp : p.length ≤ 32) (hq : q.length ≤ 32) : trie_common.f (ad p : Int) (p.length : Int) (ad q : Int) (q.length : Int) = some ((lcp p q).length : Int) := by
  unfold trie_common.f
  rw [f_Common, lo_ad hp, lo_ad hq, Option.bind_some, ← com_lcp hp hq]
  unfold mn
  congr 1
  split <;> split <;> omega
theorem t_Bit (a : Int) (n : Nat) : bits_Bit.f a (n : Int) = some (if bitOf (K32 a) n then 1 else 0) := by
  unfold bits_Bit.f
  rw [if_neg (by omega)]
  split
  · rename_i h
    have h : 32 ≤ n := by omega
    have : bitOf (K32 a) n = false := by
      unfold bitOf
      rw [List.getD_eq_getElem?_getD, List.getElem?_eq_none (by rw [K32_length]; exact h)]
      rfl
    rw [this]; rfl
  · rename_i h
    have h : n < 32 := by omega
    have h1 := num_bit (K32_length a) h
    rw [num_K32] at h1
    have h2 : (lo a : Int) = a % 4294967296 := by unfold lo; omega
    rw [← h2, show (31 - (n : Int)).toNat = 31 - n by omega]
    unfold bit at h1
    have h3 : (lo a : Int) / 2 ^ (31 - n) % 2 = ((lo a / 2 ^ (31 - n) % 2 : Nat) : Int) := by push_cast; rfl
    rw [h3, h1]
    cases bitOf (K32 a) n <;> rfl
theorem K32_ad {p : K} (h : p.length ≤ 32) : K32 (ad p : Int) = pad p := by
  refine num_inj (by rw [K32_length, pad_length h]) ?_
  rw [num_K32, lo_ad h, ad_pad]
theorem t_BitK {p : K} (h : p.length ≤ 32) (n : Nat) : bits_Bit.f (ad p : Int) (n : Int) = some (if bitOf p n then 1 else 0) := by
  rw [t_Bit, K32_ad h, bitOf_pad]
theorem t_Cut {p : K} (h : p.length ≤ 32) {c : Nat} (hc : c ≤ p.length) : bits_Cut.f (ad p : Int) (c : Int) = some ((ad (p.take c) : Int), (c : Int)) := by
  rw [f_Cut, lo_ad h, bd_nat c (by omega), ad_cut h hc]
theorem t_Has {p : K} (h : p.length ≤ 32) (a : Int) : bits_Has.f (ad p : Int) (p.length : Int) a = some (p.isPrefixOf (K32 a)) := by
  rw [f_Has, bd_nat _ h]
  congr 1
  rw [Bool.eq_iff_iff, List.isPrefixOf_iff_prefix, pre_K32 h]
  simp
  omega
theorem key_isPre {p : K} (h : p.length ≤ 32) : isPre (ad p : Int) (p.length : Int) := by
  have := ad_lt h
  refine ⟨by omega, by omega, by omega, by omega, ?_⟩
  rw [lo_ad h, bd_nat _ h, ad_cut h (Nat.le_refl _), List.take_length]
end Go.Proofs.Ytjffikckddijmaa
namespace Go.Proofs.Ytjffikckddijmaa
open Go.RowKit Go.Proofs.YtjffikckddijmaaW.PrintWords Go.Proofs.YtjffikckddijmaaW.PrintLast Go.Proofs.YtjffikckddijmaaW.PrintMore
open All All.BM
attribute [local go_sem] max2_int min2_int max_two min_two max_three min_three max_four min_four
set_option linter.unusedVariables false
set_option linter.unusedSimpArgs false
structure IsNd (x : Nd) (q : K) (s : Option Int) : Prop where
  a : x.a = (ad q : Int)
  n : x.n = (q.length : Int)
  b : x.b = s.isSome
  v : ∀ v, s = some v → x.v = v
def Holds (ns : List Nd) : Int → T → Prop
  | at_, .nil => at_ = -1
  | at_, .nd i q s l r => at_ = (i : Int) ∧ ∃ x, ns[i]? = some x ∧ IsNd x q s ∧ Holds ns x.k0 l ∧ Holds ns x.k1 r
def rootOf : T → Int
  | .nil => -1
  | .nd i _ _ _ _ => (i : Int)
theorem Holds.root {ns : List Nd} {at_ : Int} : ∀ {t : T}, Holds ns at_ t → at_ = rootOf t
  | .nil, h => h
  | .nd _ _ _ _ _, h => h.1
def bi (b : Bool) : Int := if b then 1 else 0
def seekT (p : K) : T → Int → Int → Int × Int × Int
  | .nil, par, side => (par, side, -1)
  | .nd i q s l r, par, side => if stop q p then (par, side, (i : Int)) else seekT p (if bitOf p q.length then r else l) i (bi (bitOf p q.length))
  termination_by t => t.size
  decreasing_by simp only [T.size]; split <;> omega
theorem stop_no {q p : K} (h : stop q p = false) : ¬ (lcp p q).length < q.length ∧ q.length ≠ p.length := by
  have h1 := stop_false h
  have h2 := ne_of_snoc h1
  have h3 : q <+: lcp p q := lcp_great (pre_of_snoc h1) List.prefix_rfl
  have := h3.length_le
  omega
theorem stop_yes {q p : K} (h : stop q p = true) : (lcp p q).length < q.length ∨ (¬ (lcp p q).length < q.length ∧ q.length = p.length) := by
  by_cases h1 : (lcp p q).length < q.length
  · exact .inl h1
  · refine .inr ⟨h1, ?_⟩
    have h2 := lcp_right p q
    have h3 := h2.length_le
    have h4 := pre_eq h2 (by omega)
    have h5 := lcp_left p q
    rw [h4] at h5
    rw [stop_true h h5]
def Short (t : T) : Prop := ∀ x ∈ t.keys, x.length ≤ 32
theorem Short.left {i : Nat} {q : K} {s : Option Int} {l r : T} (h : Short (.nd i q s l r)) : Short l := fun x hx => h x (by simp [T.keys, hx])
theorem Short.right {i : Nat} {q : K} {s : Option Int} {l r : T} (h : Short (.nd i q s l r)) : Short r := fun x hx => h x (by simp [T.keys, hx])
theorem Short.own {i : Nat} {q : K} {s : Option Int} {l r : T} (h : Short (.nd i q s l r)) : q.length ≤ 32 := h q (by simp [T.keys])
set_option maxHeartbeats 4000000 in
set_option maxRecDepth 100000 in
theorem seek_any {w : World} {base g : Nat} {sl : Value} {s : St} (h : TM w base g sl s) {t : T} (hT : Holds s.ns s.root t) (hk : Short t) {p : K} (hp : p.length ≤ 32) :
    Calls Try.prog 25 #[.pointer (some ⟨g, 0, none⟩), .agg #[.int .i64 (ad p), .int .i64 p.length]] w fun e w' =>
      e = .returned (.tuple #[.int .i64 (seekT p t (-1) 0).1, .int .i64 (seekT p t (-1) 0).2.1, .int .i64 (seekT p t (-1) 0).2.2]) ∧ Below w.heap.size w w' := by
  obtain ⟨c0, c1, c2, c3, c4⟩ := h.cs
  have hg := h.lt
  have H := Aside0.mk h
  have HT := Aside0.mk hT
  clear h hT
  go_enter Try.func25, Try.ntmps25
  go_wp2
  go_step3
  go_wp2
  go_quiet (fail)
  go_wp2
  go_step3
  go_wp2
  go_loopg [4, 5, 6] t.size (fun k v4 v5 v6 wr => ∃ (S : T) (par side at_ : Int), v4 = .int .i64 par ∧ v5 = .int .i64 side ∧ v6 = .int .i64 at_ ∧
    Aside0 (k = S.size ∧ Holds s.ns at_ S ∧ Short S ∧ seekT p S par side = seekT p t (-1) 0) ∧ Below w.heap.size w wr ∧
    wr.cell? ⟨w.heap.size, 0, none⟩ = some (.int .i64 (ad p)) ∧ wr.cell? ⟨w.heap.size, 1, none⟩ = some (.int .i64 p.length) ∧ w.heap.size < wr.heap.size)
  case atStart => exact ⟨t, -1, 0, s.root, rfl, rfl, rfl, ⟨⟨rfl, HT.out, hk, rfl⟩⟩, by repeat (first | exact Below.refl _ _ | apply pw_below_drewN | apply below_alloc), by go_simp, by go_simp, by simp⟩
  case round =>
    obtain ⟨S, par, side, at_, rfl, rfl, rfl, ⟨hgk, hS, hsh, hsk⟩, hB, b0, b1, hlt⟩ := hrel
    clear HT
    have H1 := H.out.below hB
    clear c0 c1 c2 c3 c4
    obtain ⟨c0, c1, c2, c3, c4⟩ := H1.cs
    cases S with
    | nil =>
      obtain rfl : at_ = -1 := hS
      have HSK := Aside0.mk hsk
      clear hsk
      go_wp2
      rw [Exit.noGoto_ret]
      go_ret3
      rw [← HSK.out, seekT]
      exact ⟨rfl, hB⟩
    | nd i q sv l r =>
      obtain ⟨rfl, x, hx, hnd, hl, hr⟩ := hS
      obtain ⟨ab, cap, e, hba, hab, hag, hi, d0, d1, d2, d3, d4, d5, hfz⟩ := H1.node hx
      have hcap := H1.few
      rw [e] at c0
      rw [hnd.a] at d0
      rw [hnd.n] at d1
      have HX := Aside0.mk (And.intro hx (And.intro hnd (And.intro hl (And.intro hr (And.intro hsh (And.intro hsk hgk))))))
      clear hx hnd hl hr hsk hgk e
      have hq := hsh.own
      clear hsh hk H1 H
      have hc := t_common hp hq
      cases hst : stop q p
      · obtain ⟨e1, e2⟩ := stop_no hst
        have g3 : decide (((lcp p q).length : Int) < (q.length : Int)) = false := by simpa using e1
        have g4 : ((q.length : Int) == (p.length : Int)) = false := by rw [beq_eq_false_iff_ne]; omega
        have g1 : decide ((lcp p q).length < q.length) = false := by simpa using e1
        have g2 : (q.length == p.length) = false := by simpa using e2
        clear e1 e2
        have hbit := t_BitK hp q.length
        have hst' := Aside0.mk hst
        have HC := Aside0.mk hc
        clear hst hc
        cases hb : bitOf p q.length
        · rw [hb] at hbit
          have HQ := Aside0.mk hbit
          have HBB := Aside0.mk hb
          clear hbit hb
          go_wp2
          go_region_held3 (fun w' => w'.cell? ⟨w.heap.size, 0, none⟩ = some (.int .i64 (ad p)) ∧ w'.cell? ⟨w.heap.size, 1, none⟩ = some (.int .i64 p.length) ∧ w'.cell? ⟨wr.heap.size, 0, none⟩ = some (.int .i64 (ad q)) ∧ w'.cell? ⟨wr.heap.size, 1, none⟩ = some (.int .i64 q.length) ∧ w'.cell? ⟨wr.heap.size, 2, none⟩ = some (.int .i64 x.k0) ∧ w'.cell? ⟨wr.heap.size, 3, none⟩ = some (.int .i64 x.k1))
            (first | go_keep | (go_split_ands; exact ⟨pw_cell_below hb5 (by assumption), pw_cell_below hb5 (by assumption), pw_cell_below hb5 (by assumption), pw_cell_below hb5 (by assumption), pw_cell_below hb5 (by assumption), pw_cell_below hb5 (by assumption)⟩))
            (first | (go_at_call 26; refine (trie_common.calls _ _ _ _ _ _ HC.out).mono ?_; rintro e w5 ⟨rfl, hb5⟩))
          rename_i hHeld
          have hW : Below w.heap.size w w5 := below_then (hB.alloc (Nat.le_of_lt hlt) _).drew (by simp; omega) hb5
          clear hb5
          have HW := Aside0.mk hW
          clear hW
          go_wp2_with (first | (go_at_call 29; refine (bits_Bit.calls _ _ _ _ HQ.out).mono ?_; rintro e w6 ⟨rfl, ⟨n, rfl⟩⟩))
          obtain ⟨q0, q1, _, _, _, _⟩ := hHeld
          obtain ⟨hx, hnd, hl, hr, hsh, hsk, hgk⟩ := HX.out
          have hlt5 := World.block_lt_of_cell? w5 _ q0
          go_roundg l.size
          case measure => rw [hgk]; simp only [T.size]; omega
          case rel => exact ⟨l, (i : Int), 0, x.k0, rfl, rfl, rfl, ⟨⟨rfl, hl, hsh.left, by rw [← hsk, seekT, if_neg (by rw [hst'.out]; simp), HBB.out]; rfl⟩⟩, by repeat (first | exact HW.out | apply pw_below_drewN), q0, q1, by simpa using hlt5⟩
        · rw [hb] at hbit
          have HQ := Aside0.mk hbit
          have HBB := Aside0.mk hb
          clear hbit hb
          go_wp2
          go_region_held3 (fun w' => w'.cell? ⟨w.heap.size, 0, none⟩ = some (.int .i64 (ad p)) ∧ w'.cell? ⟨w.heap.size, 1, none⟩ = some (.int .i64 p.length) ∧ w'.cell? ⟨wr.heap.size, 0, none⟩ = some (.int .i64 (ad q)) ∧ w'.cell? ⟨wr.heap.size, 1, none⟩ = some (.int .i64 q.length) ∧ w'.cell? ⟨wr.heap.size, 2, none⟩ = some (.int .i64 x.k0) ∧ w'.cell? ⟨wr.heap.size, 3, none⟩ = some (.int .i64 x.k1))
            (first | go_keep | (go_split_ands; exact ⟨pw_cell_below hb5 (by assumption), pw_cell_below hb5 (by assumption), pw_cell_below hb5 (by assumption), pw_cell_below hb5 (by assumption), pw_cell_below hb5 (by assumption), pw_cell_below hb5 (by assumption)⟩))
            (first | (go_at_call 26; refine (trie_common.calls _ _ _ _ _ _ HC.out).mono ?_; rintro e w5 ⟨rfl, hb5⟩))
          rename_i hHeld
          have hW : Below w.heap.size w w5 := below_then (hB.alloc (Nat.le_of_lt hlt) _).drew (by simp; omega) hb5
          clear hb5
          have HW := Aside0.mk hW
          clear hW
          go_wp2_with (first | (go_at_call 29; refine (bits_Bit.calls _ _ _ _ HQ.out).mono ?_; rintro e w6 ⟨rfl, ⟨n, rfl⟩⟩))
          obtain ⟨q0, q1, _, _, _, _⟩ := hHeld
          obtain ⟨hx, hnd, hl, hr, hsh, hsk, hgk⟩ := HX.out
          have hlt5 := World.block_lt_of_cell? w5 _ q0
          go_roundg r.size
          case measure => rw [hgk]; simp only [T.size]; omega
          case rel => exact ⟨r, (i : Int), 1, x.k1, rfl, rfl, rfl, ⟨⟨rfl, hr, hsh.right, by rw [← hsk, seekT, if_neg (by rw [hst'.out]; simp), HBB.out]; rfl⟩⟩, by repeat (first | exact HW.out | apply pw_below_drewN), q0, q1, by simpa using hlt5⟩
      · have hst' := Aside0.mk hst
        have HC := Aside0.mk hc
        clear hc
        rcases stop_yes hst with e1 | ⟨e1, e2⟩
        · have g3 : decide (((lcp p q).length : Int) < (q.length : Int)) = true := by simpa using e1
          have g1 : decide ((lcp p q).length < q.length) = true := by simpa using e1
          clear hst e1
          go_wp2
          refine q_start (fun w' => Below wr.heap.size wr w' ∧ w'.cell? ⟨w.heap.size, 0, none⟩ = some (.int .i64 (ad p)) ∧ w'.cell? ⟨w.heap.size, 1, none⟩ = some (.int .i64 p.length) ∧ w'.cell? ⟨wr.heap.size, 0, none⟩ = some (.int .i64 (ad q)) ∧ w'.cell? ⟨wr.heap.size, 1, none⟩ = some (.int .i64 q.length)) (by kernel_rfl) (by kernel_rfl) ⟨((Below.refl _ _).alloc (Nat.le_refl _) _).drew, by go_simp, by go_simp, by go_simp, by go_simp⟩ ?_
          repeat (first
            | (refine q_skip rfl ?_)
            | (refine q_want rfl (q_val (v := ?_) ?_ ?_)
               rotate_left
               · (intro w' hw'; obtain ⟨_, h0, h1, h2, h3⟩ := hw'; go_simp; with_reducible rfl)
               simp only [Act.put, List.setIfInBounds_toArray, List.set_cons_zero, List.set_cons_succ])
            | (refine q_want rfl (q_call (f := 26) ?_ (fun w' hw' => (trie_common.calls _ _ _ _ _ _ HC.out).mono fun e w5 ⟨he, hb5⟩ => ⟨he, ?_⟩) ?_)
               · (intro w' hw'; obtain ⟨_, h0, h1, h2, h3⟩ := hw'; go_simp; done)
               · obtain ⟨hb, h0, h1, h2, h3⟩ := hw'
                 exact ⟨below_step hb hb5, pw_cell_below hb5 h0, pw_cell_below hb5 h1, pw_cell_below hb5 h2, pw_cell_below hb5 h3⟩
               simp only [Act.put, List.setIfInBounds_toArray, List.set_cons_zero, List.set_cons_succ]))
          refine wpQuiet_nil ?_
          rintro w5 ⟨hW, -, -, -, -⟩
          go_wp2
          rw [Exit.noGoto_ret]
          go_ret3
          obtain ⟨hx, hnd, hl, hr, hsh, hsk, hgk⟩ := HX.out
          rw [← hsk, seekT, if_pos hst'.out]
          exact ⟨rfl, below_step hB hW⟩
        · have g3 : decide (((lcp p q).length : Int) < (q.length : Int)) = false := by simpa using e1
          have g1 : decide ((lcp p q).length < q.length) = false := by simpa using e1
          have g4 : ((q.length : Int) == (p.length : Int)) = true := by rw [beq_iff_eq]; omega
          have g2 : (q.length == p.length) = true := by simpa using e2
          clear hst e1 e2
          go_wp2
          refine q_start (fun w' => Below wr.heap.size wr w' ∧ w'.cell? ⟨w.heap.size, 0, none⟩ = some (.int .i64 (ad p)) ∧ w'.cell? ⟨w.heap.size, 1, none⟩ = some (.int .i64 p.length) ∧ w'.cell? ⟨wr.heap.size, 0, none⟩ = some (.int .i64 (ad q)) ∧ w'.cell? ⟨wr.heap.size, 1, none⟩ = some (.int .i64 q.length)) (by kernel_rfl) (by kernel_rfl) ⟨((Below.refl _ _).alloc (Nat.le_refl _) _).drew, by go_simp, by go_simp, by go_simp, by go_simp⟩ ?_
          repeat (first
            | (refine q_skip rfl ?_)
            | (refine q_want rfl (q_val (v := ?_) ?_ ?_)
               rotate_left
               · (intro w' hw'; obtain ⟨_, h0, h1, h2, h3⟩ := hw'; go_simp; with_reducible rfl)
               simp only [Act.put, List.setIfInBounds_toArray, List.set_cons_zero, List.set_cons_succ])
            | (refine q_want rfl (q_call (f := 26) ?_ (fun w' hw' => (trie_common.calls _ _ _ _ _ _ HC.out).mono fun e w5 ⟨he, hb5⟩ => ⟨he, ?_⟩) ?_)
               · (intro w' hw'; obtain ⟨_, h0, h1, h2, h3⟩ := hw'; go_simp; done)
               · obtain ⟨hb, h0, h1, h2, h3⟩ := hw'
                 exact ⟨below_step hb hb5, pw_cell_below hb5 h0, pw_cell_below hb5 h1, pw_cell_below hb5 h2, pw_cell_below hb5 h3⟩
               simp only [Act.put, List.setIfInBounds_toArray, List.set_cons_zero, List.set_cons_succ]))
          refine wpQuiet_nil ?_
          rintro w5 ⟨hW, -, -, -, -⟩
          go_wp2
          rw [Exit.noGoto_ret]
          go_ret3
          obtain ⟨hx, hnd, hl, hr, hsh, hsk, hgk⟩ := HX.out
          rw [← hsk, seekT, if_pos hst'.out]
          exact ⟨rfl, below_step hB hW⟩
end Go.Proofs.Ytjffikckddijmaa
