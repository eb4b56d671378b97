/- What the document's functions of layer 2 come to, as printed, in the words of the plain facts on bytes. -/
import Derived.Test.YtdmajldpebooeaaDoorQ5Allx0
import Derived.Test.YtdmajldpebooeaaDoorQ5Allx8
import Derived.Test.YtdmajldpebooeaaDoorQ5Allx17
import Derived.Test.YtdmajldpebooeaaDoorQ5Allx18
import Derived.Test.YtdmajldpebooeaaDoorQ5MathD
import Derived.Test.YtdmajldpebooeaaDoorQ5MathE
set_option linter.unusedVariables false
set_option linter.unusedSimpArgs false
namespace Go.Proofs.YtdmajldpebooeaaDoor.All
open Go.RowKit Go.Proofs.YtdmajldpebooeaaDoorW.PrintWords Go.Proofs.YtdmajldpebooeaaDoorW.PrintLast Go.Proofs.YtdmajldpebooeaaDoorW.PrintMore
open OB
theorem wrap_id (n : Int) (h0 : 0 ≤ n) (h1 : n < 9223372036854775807) : wrap64 n = n := by unfold wrap64; omega
theorem wrap_s (i : Nat) (h : i ≤ 1000000000) : wrap64 ((i : Int) + 1) = ((i + 1 : Nat) : Int) := by unfold wrap64; omega
theorem rd_a (l : List Int) (i : Nat) (h : i < l.length) : rd l (i : Int) = l[i] := by simp [rd, List.getD, h]
theorem r_Get_l (l : List Int) (hb : Bys l) (w : Nat) (h4 : w ≤ 4) (hw : w ≤ l.length) (d : Nat) : ∀ (i k : Nat), i + d = w → d < k → wayfinderref02_Get.l0 k l (w : Int) ((val (l.take i) : Nat) : Int) (i : Int) = some (((val (l.take w) : Nat) : Int), 0) := by
  induction d with
  | zero =>
    intro i k hi hk
    obtain ⟨k, rfl⟩ : ∃ m, k = m + 1 := ⟨k - 1, by omega⟩
    obtain rfl : i = w := by omega
    simp only [wayfinderref02_Get.l0]
    rw [if_neg (by omega)]
  | succ d ih =>
    intro i k hi hk
    obtain ⟨k, rfl⟩ : ∃ m, k = m + 1 := ⟨k - 1, by omega⟩
    have c1 : (i : Int) < (w : Int) := by omega
    have c2 : 0 ≤ (i : Int) := by omega
    have c3 : (i : Int) < (l.length : Int) := by omega
    have i1 : i < l.length := by omega
    have hI := ih (i + 1) k (by omega) (by omega)
    have hti : (l.take i).length = i := by rw [List.length_take]; omega
    have hvi := val_lt (l.take i) (hb.take i)
    rw [hti] at hvi
    have hvi2 : val (l.take i) < 16777216 := Nat.lt_of_lt_of_le hvi (Nat.le_trans (Nat.pow_le_pow_right (by decide) (by omega : i ≤ 3)) (by decide))
    clear hvi
    have hr := hb.get (i : Int)
    have hs : val (l.take (i + 1)) = val (l.take i) * 256 + (rd l (i : Int)).toNat := by
      rw [List.take_succ_eq_append_getElem i1, val_snoc, rd_a l i i1]
    have e : wrap64 (wrap64 (((val (l.take i) : Nat) : Int) * 256) + wrap64 (rd l (i : Int))) = ((val (l.take (i + 1)) : Nat) : Int) := by
      rw [hs]
      generalize val (l.take i) = v at hvi2
      generalize rd l (i : Int) = c at hr
      rw [wrap_id (↑v * 256) (by omega) (by omega), wrap_id c (by omega) (by omega), wrap_id _ (by omega) (by omega)]
      omega
    simp only [wayfinderref02_Get.l0]
    rw [if_pos c1, if_pos c2, if_pos c3, e, wrap_s i (by omega)]
    exact hI
theorem r_Get (k : Nat) (hk : 10 ≤ k) (l : List Int) (hb : Bys l) (w : Int) : wayfinderref02_Get.f k l w = some (getR l w) := by
  obtain ⟨k, rfl⟩ : ∃ m, k = m + 1 := ⟨k - 1, by omega⟩
  unfold wayfinderref02_Get.f getR
  by_cases h1 : w < 1
  · rw [if_pos h1, if_neg (by omega)]
    simp only [wayfinderref02_Get.j0, if_true]
  · rw [if_neg h1]
    simp only [wayfinderref02_Get.j0]
    by_cases h2 : w > 4
    · rw [decide_eq_true h2, if_pos rfl, if_neg (by omega)]
    · rw [decide_eq_false h2, if_neg (by decide), if_pos (show 1 ≤ w ∧ w ≤ 4 by omega)]
      by_cases h3 : (l.length : Int) < w
      · rw [if_pos h3, if_pos h3]
      · obtain ⟨v, rfl⟩ := Int.eq_ofNat_of_zero_le (by omega : 0 ≤ w)
        rw [if_neg h3, if_neg h3, Int.toNat_natCast]
        have h := r_Get_l l hb v (by omega) (by omega) v 0 k (by omega) (by omega)
        rw [List.take_zero] at h
        exact h
theorem r_GetAll_l (b : List Int) (hb : Bys b) (hlen : b.length ≤ 1000000) (ws : List Int) (h2 : ws.length ≤ 1000000) (d : Nat) : ∀ (i k c : Nat) (acc : List Int), i + d = ws.length → d + 11 < k → acc.length ≤ i → c ≤ b.length →
    wayfinderref02_GetAll.l0 k b ws acc (c : Int) (i : Int) = some (match gaR (b.drop c) (ws.drop i) with | .ok l j => (acc ++ l, ((c + j : Nat) : Int), 0) | .err e => ([], 0, e)) := by
  induction d with
  | zero =>
    intro i k c acc hi hk ha hc
    obtain ⟨k, rfl⟩ : ∃ m, k = m + 1 := ⟨k - 1, by omega⟩
    simp only [wayfinderref02_GetAll.l0]
    rw [if_neg (by omega), List.drop_eq_nil_of_le (show ws.length ≤ i by omega)]
    simp [gaR]
  | succ d ih =>
    intro i k c acc hi hk ha hc
    obtain ⟨k, rfl⟩ : ∃ m, k = m + 1 := ⟨k - 1, by omega⟩
    have c1 : (i : Int) < (ws.length : Int) := by omega
    have c2 : 0 ≤ (i : Int) := by omega
    have c3 : 0 ≤ (c : Int) := by omega
    have c4 : (c : Int) ≤ (b.length : Int) := by omega
    have i2 : i < ws.length := by omega
    have hI := fun (c' : Nat) (acc' : List Int) (h : acc'.length ≤ i + 1) (h' : c' ≤ b.length) => ih (i + 1) k c' acc' (by omega) (by omega) h h'
    simp only [wayfinderref02_GetAll.l0]
    rw [if_pos c1, if_pos c3, if_pos c4, if_pos c2, Int.toNat_natCast, r_Get k (by omega) _ (hb.drop c), wrap_s i (by omega)]
    simp only [Option.bind_some]
    rw [List.drop_eq_getElem_cons i2, ← rd_a ws i i2]
    simp only [gaR, getR]
    generalize rd ws (i : Int) = w
    by_cases h1 : 1 ≤ w ∧ w ≤ 4
    · simp only [if_pos h1]
      by_cases h3 : ((b.drop c).length : Int) < w
      · simp only [if_pos h3]
        rw [if_neg (by decide)]
      · simp only [if_neg h3, if_true]
        have hdl : (b.drop c).length = b.length - c := List.length_drop
        have d1 : acc.length < 17592186044416 := by omega
        have hw : wrap64 ((c : Int) + w) = ((c + w.toNat : Nat) : Int) := by rw [wrap_id _ (by omega) (by omega)]; omega
        rw [if_pos d1, hw, List.drop_drop, hI (c + w.toNat) _ (by rw [List.length_append]; simp; omega) (by omega)]
        cases gaR (b.drop (c + w.toNat)) (ws.drop (i + 1)) with
        | err e => rfl
        | ok l j => simp; omega
    · simp [if_neg h1]
theorem r_GetAll (k : Nat) (b : List Int) (hb : Bys b) (hlen : b.length ≤ 1000000) (ws : List Int) (h2 : ws.length ≤ 1000000) (hk : ws.length + 12 < k) : wayfinderref02_GetAll.f k b ws = some (outGa (gaR b ws)) := by
  unfold wayfinderref02_GetAll.f
  have := r_GetAll_l b hb hlen ws h2 ws.length 0 k 0 [] (by omega) (by omega) (by simp) (by omega)
  rw [List.drop_zero, List.drop_zero] at this
  rw [show ((0 : Nat) : Int) = 0 from rfl] at this
  rw [this]
  unfold outGa
  cases gaR b ws <;> simp
end Go.Proofs.YtdmajldpebooeaaDoor.All
