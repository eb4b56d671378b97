/-
  Chapter 7, plain facts: prefixes as bit lists; what package bits' functions tell of them.
-/
import Derived.Test.YtjffikckddijmaaTgA
import Derived.Test.YtjffikckddijmaaMathB
namespace Go.Proofs.Ytjffikckddijmaa
open Go.RowKit Go.Proofs.YtjffikckddijmaaW.PrintWords Go.Proofs.YtjffikckddijmaaW.PrintLast Go.Proofs.YtjffikckddijmaaW.PrintMore
open All All.BM
set_option linter.unusedVariables false
set_option linter.unusedSimpArgs false
def bv (b : Bool) : Nat := if b then 1 else 0
def num : K → Nat
  | [] => 0
  | b :: t => bv b * 2 ^ t.length + num t
theorem bv_le (b : Bool) : bv b ≤ 1 := by cases b <;> simp [bv]
theorem num_lt : ∀ p : K, num p < 2 ^ p.length
  | [] => by simp [num]
  | b :: t => by
    have h := num_lt t
    have hb := bv_le b
    have h1 : bv b * 2 ^ t.length ≤ 1 * 2 ^ t.length := Nat.mul_le_mul_right _ hb
    simp only [num, List.length_cons, Nat.pow_succ]
    omega
theorem num_append : ∀ p q : K, num (p ++ q) = num p * 2 ^ q.length + num q
  | [], q => by simp [num]
  | b :: t, q => by
    simp only [List.cons_append, num, num_append t q, List.length_append, Nat.pow_add, Nat.add_mul, Nat.mul_assoc, Nat.add_assoc]
theorem num_inj : ∀ {p q : K}, p.length = q.length → num p = num q → p = q
  | [], [], _, _ => rfl
  | [], _ :: _, h, _ => by simp at h
  | _ :: _, [], h, _ => by simp at h
  | a :: x, b :: y, hl, h => by
    have hl' : x.length = y.length := by simpa using hl
    have h1 := num_lt x
    have h2 := num_lt y
    simp only [num] at h
    rw [hl'] at h h1
    have hab : a = b := by
      cases a <;> cases b <;> simp [bv] at h ⊢ <;> omega
    subst hab
    rw [num_inj hl' (by omega)]
theorem num_zeros (n : Nat) : num (List.replicate n false) = 0 := by
  induction n with
  | zero => rfl
  | succ n ih => simp [List.replicate_succ, num, bv, ih]
def pad (p : K) : K := p ++ List.replicate (32 - p.length) false
def ad (p : K) : Nat := num p * 2 ^ (32 - p.length)
theorem pad_length {p : K} (h : p.length ≤ 32) : (pad p).length = 32 := by simp [pad]; omega
theorem ad_pad (p : K) : ad p = num (pad p) := by simp [pad, ad, num_append, num_zeros]
theorem num_top {A : K} (n : Nat) (hn : n ≤ A.length) : num A / 2 ^ (A.length - n) = num (A.take n) := by
  have h := num_append (A.take n) (A.drop n)
  rw [List.take_append_drop] at h
  have h1 := num_lt (A.drop n)
  rw [List.length_drop] at h h1
  rw [h, Nat.mul_comm, Nat.mul_add_div (Nat.two_pow_pos _), Nat.div_eq_of_lt h1, Nat.add_zero]
theorem ad_top {p : K} (h : p.length ≤ 32) {n : Nat} (hn : n ≤ 32) : ad p / 2 ^ (32 - n) = num ((pad p).take n) := by
  have := num_top (A := pad p) n (by rw [pad_length h]; exact hn)
  rwa [pad_length h, ← ad_pad] at this
theorem ad_lt {p : K} (h : p.length ≤ 32) : ad p < 4294967296 := by
  rw [ad_pad]
  have := num_lt (pad p)
  rw [pad_length h] at this
  simpa using this
theorem pad_take {p : K} {n : Nat} (hn : n ≤ p.length) : (pad p).take n = p.take n := by
  unfold pad
  rw [List.take_append_of_le_length hn]
theorem ad_inj {p q : K} (h : p.length ≤ 32) (hl : p.length = q.length) (he : ad p = ad q) : p = q := by
  refine num_inj hl ?_
  unfold ad at he
  rw [hl] at he
  exact Nat.eq_of_mul_eq_mul_right (Nat.two_pow_pos _) he
theorem take_snoc_num {A : K} {i : Nat} (hi : i < A.length) : num (A.take (i + 1)) = 2 * num (A.take i) + bv (A.getD i false) := by
  rw [List.take_succ_eq_append_getElem hi, num_append]
  simp [num, List.getD_eq_getElem?_getD, List.getElem?_eq_getElem hi]
  omega
theorem num_bit {A : K} (hA : A.length = 32) {i : Nat} (hi : i < 32) : bit (num A) i = bv (bitOf A i) := by
  unfold bit
  have h := num_top (A := A) (i + 1) (by omega)
  rw [hA, show 32 - (i + 1) = 31 - i by omega] at h
  rw [h, take_snoc_num (by omega)]
  have := bv_le (A.getD i false)
  unfold bitOf
  omega
theorem bitOf_pad (p : K) (i : Nat) : bitOf (pad p) i = bitOf p i := by
  unfold bitOf pad
  simp only [List.getD_eq_getElem?_getD]
  rcases Nat.lt_or_ge i p.length with h | h
  · rw [List.getElem?_append_left h]
  · rw [List.getElem?_append_right h, List.getElem?_eq_none h]
    simp only [List.getElem?_replicate]
    split <;> rfl
theorem ad_bit {p : K} (h : p.length ≤ 32) {i : Nat} (hi : i < 32) : bit (ad p) i = bv (bitOf p i) := by
  rw [ad_pad, num_bit (pad_length h) hi, bitOf_pad]
/-! ### lcp -/
theorem take_of_pre {a p : K} (h : a <+: p) {n : Nat} (hn : n ≤ a.length) : p.take n = a.take n := by
  obtain ⟨t, rfl⟩ := h
  exact List.take_append_of_le_length hn
theorem le_lcp {p q : K} {n : Nat} : n ≤ (lcp p q).length ↔ n ≤ p.length ∧ n ≤ q.length ∧ p.take n = q.take n := by
  constructor
  · intro h
    have h1 := lcp_left p q
    have h2 := lcp_right p q
    refine ⟨by have := h1.length_le; omega, by have := h2.length_le; omega, ?_⟩
    have e1 : p.take n = (lcp p q).take n := take_of_pre h1 h
    have e2 : q.take n = (lcp p q).take n := take_of_pre h2 h
    rw [e1, e2]
  · rintro ⟨h1, h2, h3⟩
    have : p.take n <+: lcp p q := lcp_great (List.take_prefix n p) (by rw [h3]; exact List.take_prefix n q)
    have := this.length_le
    simp at this
    omega
theorem com_lcp {p q : K} (hp : p.length ≤ 32) (hq : q.length ≤ 32) : min (min (com (ad p) (ad q)) p.length) q.length = (lcp p q).length := by
  have key : ∀ n, n ≤ min (min (com (ad p) (ad q)) p.length) q.length ↔ n ≤ (lcp p q).length := by
    intro n
    rw [le_lcp]
    constructor
    · intro h
      have h1 : n ≤ com (ad p) (ad q) := by omega
      refine ⟨by omega, by omega, ?_⟩
      have h2 := (le_com_iff _ _ n (ad_lt hp) (ad_lt hq) (by omega)).1 h1
      rw [ad_top hp (by omega), ad_top hq (by omega), pad_take (by omega), pad_take (by omega)] at h2
      exact num_inj (by simp; omega) h2
    · rintro ⟨h1, h2, h3⟩
      have : n ≤ com (ad p) (ad q) := by
        rw [le_com_iff _ _ n (ad_lt hp) (ad_lt hq) (by omega), ad_top hp (by omega), ad_top hq (by omega), pad_take h1, pad_take h2, h3]
      omega
  exact Nat.le_antisymm ((key _).1 (Nat.le_refl _)) ((key _).2 (Nat.le_refl _))
theorem ad_cut {p : K} (hp : p.length ≤ 32) {c : Nat} (hc : c ≤ p.length) : cut (ad p) c = ad (p.take c) := by
  unfold cut
  rw [ad_top hp (by omega), pad_take hc]
  unfold ad
  simp only [List.length_take]
  rw [Nat.min_eq_left hc]
/-! ### From numbers to keys -/
def toK : Nat → Nat → K
  | 0, _ => []
  | n + 1, x => (x / 2 ^ n == 1) :: toK n (x % 2 ^ n)
theorem toK_length : ∀ n x, (toK n x).length = n
  | 0, _ => rfl
  | n + 1, x => by simp [toK, toK_length n]
theorem num_toK : ∀ {n x : Nat}, x < 2 ^ n → num (toK n x) = x
  | 0, x, h => by simp at h; simp [toK, num, h]
  | n + 1, x, h => by
    have h1 : x / 2 ^ n < 2 := by rw [Nat.div_lt_iff_lt_mul (Nat.two_pow_pos _)]; rw [Nat.pow_succ] at h; omega
    have h2 := Nat.div_add_mod x (2 ^ n)
    simp only [toK, num, toK_length, num_toK (Nat.mod_lt _ (Nat.two_pow_pos n))]
    have h3 : ∀ y : Nat, y < 2 → bv (y == 1) = y := fun y hy => match y, hy with
      | 0, _ => rfl
      | 1, _ => rfl
    rw [h3 _ h1, Nat.mul_comm]; exact h2
def keyOf (a n : Nat) : K := toK n (a / 2 ^ (32 - n))
theorem keyOf_length (a n : Nat) : (keyOf a n).length = n := toK_length _ _
theorem top_lt {a n : Nat} (ha : a < 4294967296) (hn : n ≤ 32) : a / 2 ^ (32 - n) < 2 ^ n := by
  rw [Nat.div_lt_iff_lt_mul (Nat.two_pow_pos _), ← Nat.pow_add, show n + (32 - n) = 32 by omega]
  simpa using ha
theorem ad_keyOf {a n : Nat} (ha : a < 4294967296) (hn : n ≤ 32) : ad (keyOf a n) = cut a n := by
  unfold ad cut
  rw [keyOf_length]
  unfold keyOf
  rw [num_toK (top_lt ha hn)]
theorem keyOf_ad {p : K} (h : p.length ≤ 32) : keyOf (ad p) p.length = p := by
  refine ad_inj (by rw [keyOf_length]; exact h) (keyOf_length _ _) ?_
  rw [ad_keyOf (ad_lt h) h, ad_cut h (Nat.le_refl _), List.take_length]
/-- An address, as its 32 bits. -/
def K32 (a : Int) : K := toK 32 (lo a)
theorem K32_length (a : Int) : (K32 a).length = 32 := toK_length _ _
theorem num_K32 (a : Int) : num (K32 a) = lo a := num_toK (lo_lt a)
theorem pre_K32 {p : K} (h : p.length ≤ 32) (a : Int) : p <+: K32 a ↔ cut (lo a) p.length = ad p := by
  have hA := K32_length a
  have h1 := num_top (A := K32 a) p.length (by omega)
  rw [hA, num_K32] at h1
  unfold cut ad
  rw [h1]
  constructor
  · intro hp
    rw [List.prefix_iff_eq_take] at hp
    rw [← hp]
  · intro he
    have h2 := Nat.eq_of_mul_eq_mul_right (Nat.two_pow_pos _) he
    rw [List.prefix_iff_eq_take]
    exact (num_inj (by simp; omega) h2).symm
/-! ### The order -/
theorem num_order : ∀ (N : Nat) {p q : K}, p.length ≤ N → q.length ≤ N →
    (lt p q = true ↔ num p * 2 ^ (N - p.length) < num q * 2 ^ (N - q.length) ∨ (num p * 2 ^ (N - p.length) = num q * 2 ^ (N - q.length) ∧ p.length < q.length))
  | N, p, [], hp, _ => by
    cases p <;> simp [lt, num]
  | N, [], b :: y, _, hq => by
    simp only [lt, num, List.length_nil, List.length_cons, true_iff]
    simp
    omega
  | 0, a :: x, _ :: _, hp, _ => by simp at hp
  | N + 1, a :: x, b :: y, hp, hq => by
    have hx : x.length ≤ N := by simpa using hp
    have hy : y.length ≤ N := by simpa using hq
    have ih := num_order N hx hy
    have e : ∀ {z : K} (c : Bool), z.length ≤ N → num (c :: z) * 2 ^ (N + 1 - (c :: z).length) = bv c * 2 ^ N + num z * 2 ^ (N - z.length) := by
      intro z c hz
      simp only [num, List.length_cons, Nat.add_mul, Nat.mul_assoc, ← Nat.pow_add]
      rw [show z.length + (N + 1 - (z.length + 1)) = N by omega, show N + 1 - (z.length + 1) = N - z.length by omega]
    have lx : num x * 2 ^ (N - x.length) < 2 ^ N := by
      have := Nat.mul_lt_mul_of_pos_right (num_lt x) (Nat.two_pow_pos (N - x.length))
      rwa [← Nat.pow_add, show x.length + (N - x.length) = N by omega] at this
    have ly : num y * 2 ^ (N - y.length) < 2 ^ N := by
      have := Nat.mul_lt_mul_of_pos_right (num_lt y) (Nat.two_pow_pos (N - y.length))
      rwa [← Nat.pow_add, show y.length + (N - y.length) = N by omega] at this
    rw [e a hx, e b hy]
    generalize num x * 2 ^ (N - x.length) = u at *
    generalize num y * 2 ^ (N - y.length) = v at *
    cases a <;> cases b <;> simp [lt, bv, ih] <;> omega
theorem lt_iff {p q : K} (hp : p.length ≤ 32) (hq : q.length ≤ 32) : lt p q = true ↔ ad p < ad q ∨ (ad p = ad q ∧ p.length < q.length) := num_order 32 hp hq
/-! ### What package bits tells -/
theorem lo_ad {p : K} (h : p.length ≤ 32) : lo (ad p : Int) = ad p := lo_nat _ (ad_lt h)
theorem t_common {p q : K} (hp : p.length ≤ 32) (hq : q.length ≤ 32) : trie_common.f (ad p : Int) (p.length : Int) (ad q : Int) (q.length : Int) = some ((lcp p q).length : Int) := by
  unfold trie_common.f
  rw [f_Common, lo_ad hp, lo_ad hq, Option.bind_some, ← com_lcp hp hq]
  unfold mn
  congr 1
  split <;> split <;> omega
theorem t_Bit (a : Int) (n : Nat) : bits_Bit.f a (n : Int) = some (if bitOf (K32 a) n then 1 else 0) := by
  unfold bits_Bit.f
  rw [if_neg (by omega)]
  split
  · rename_i h
    have h : 32 ≤ n := by omega
    have : bitOf (K32 a) n = false := by
      unfold bitOf
      rw [List.getD_eq_getElem?_getD, List.getElem?_eq_none (by rw [K32_length]; exact h)]
      rfl
    rw [this]; rfl
  · rename_i h
    have h : n < 32 := by omega
    have h1 := num_bit (K32_length a) h
    rw [num_K32] at h1
    have h2 : (lo a : Int) = a % 4294967296 := by unfold lo; omega
    rw [← h2, show (31 - (n : Int)).toNat = 31 - n by omega]
    unfold bit at h1
    have h3 : (lo a : Int) / 2 ^ (31 - n) % 2 = ((lo a / 2 ^ (31 - n) % 2 : Nat) : Int) := by push_cast; rfl
    rw [h3, h1]
    cases bitOf (K32 a) n <;> rfl
theorem K32_ad {p : K} (h : p.length ≤ 32) : K32 (ad p : Int) = pad p := by
  refine num_inj (by rw [K32_length, pad_length h]) ?_
  rw [num_K32, lo_ad h, ad_pad]
theorem t_BitK {p : K} (h : p.length ≤ 32) (n : Nat) : bits_Bit.f (ad p : Int) (n : Int) = some (if bitOf p n then 1 else 0) := by
  rw [t_Bit, K32_ad h, bitOf_pad]
theorem t_Cut {p : K} (h : p.length ≤ 32) {c : Nat} (hc : c ≤ p.length) : bits_Cut.f (ad p : Int) (c : Int) = some ((ad (p.take c) : Int), (c : Int)) := by
  rw [f_Cut, lo_ad h, bd_nat c (by omega), ad_cut h hc]
theorem t_Has {p : K} (h : p.length ≤ 32) (a : Int) : bits_Has.f (ad p : Int) (p.length : Int) a = some (p.isPrefixOf (K32 a)) := by
  rw [f_Has, bd_nat _ h]
  congr 1
  rw [Bool.eq_iff_iff, List.isPrefixOf_iff_prefix, pre_K32 h]
  simp
  omega
theorem isPre_key {a n : Int} (h : isPre a n) : ∃ p : K, p.length ≤ 32 ∧ a = (ad p : Int) ∧ n = (p.length : Int) := by
  obtain ⟨h1, h2, h3, h4, h5⟩ := h
  have hb := bd_of n h1 h2
  refine ⟨keyOf (lo a) (bd n), by rw [keyOf_length]; exact bd_le n, ?_, by rw [keyOf_length]; exact hb.symm⟩
  rw [ad_keyOf (lo_lt a) (bd_le n)]; exact h5.symm
theorem key_isPre {p : K} (h : p.length ≤ 32) : isPre (ad p : Int) (p.length : Int) := by
  have := ad_lt h
  refine ⟨by omega, by omega, by omega, by omega, ?_⟩
  rw [lo_ad h, bd_nat _ h, ad_cut h (Nat.le_refl _), List.take_length]
end Go.Proofs.Ytjffikckddijmaa
