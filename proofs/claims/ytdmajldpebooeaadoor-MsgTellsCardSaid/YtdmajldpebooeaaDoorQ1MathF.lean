/- What the document's functions of layer 2 come to, as printed, in the words of the plain facts on bytes. -/
import Derived.Test.YtdmajldpebooeaaDoorQ1Allx0
import Derived.Test.YtdmajldpebooeaaDoorQ1Allx10
import Derived.Test.YtdmajldpebooeaaDoorQ1Allx6
import Derived.Test.YtdmajldpebooeaaDoorQ1MathD
import Derived.Test.YtdmajldpebooeaaDoorQ1MathE
set_option linter.unusedVariables false
set_option linter.unusedSimpArgs false
namespace Go.Proofs.YtdmajldpebooeaaDoor.All
open Go.RowKit Go.Proofs.YtdmajldpebooeaaDoorW.PrintWords Go.Proofs.YtdmajldpebooeaaDoorW.PrintLast Go.Proofs.YtdmajldpebooeaaDoorW.PrintMore
open OB
theorem r_power (k : Nat) (hk : 8 ≤ k) (n : Int) (h : n = 0 ∨ n = 1 ∨ n = 2 ∨ n = 3 ∨ n = 4) : wayfinderref02_power.f k n = some ((256 ^ n.toNat : Nat) : Int) := by
  obtain ⟨k, rfl⟩ : ∃ m, k = m + 6 := ⟨k - 6, by omega⟩
  unfold wayfinderref02_power.f
  rcases h with rfl | rfl | rfl | rfl | rfl
  · simp [wayfinderref02_power.l0, wrap64]
  · simp [wayfinderref02_power.l0, wrap64]
  · simp [wayfinderref02_power.l0, wrap64]
  · simp [wayfinderref02_power.l0, wrap64]
  · simp [wayfinderref02_power.l0, wrap64]
theorem wrap_id (n : Int) (h0 : 0 ≤ n) (h1 : n < 9223372036854775807) : wrap64 n = n := by unfold wrap64; omega
theorem digit (N p : Nat) (hN : N < 4294967296) : (Int.tmod (wrap64 (Int.tdiv (N : Int) (p : Int))) 256) % 256 = ((N / p % 256 : Nat) : Int) := by
  have h1 : N / p ≤ N := Nat.div_le_self _ _
  rw [Int.tdiv_eq_ediv_of_nonneg (by omega), ← Int.natCast_ediv]
  generalize N / p = q at h1
  rw [wrap_id _ (by omega) (by omega), Int.tmod_eq_emod_of_nonneg (by omega)]
  omega
theorem r_Put_l (N : Nat) (hN : N < 4294967296) : ∀ (v k : Nat) (acc : List Int), v ≤ 4 → acc.length + v ≤ 100 → v + 10 ≤ k → wayfinderref02_Put.l0 k (N : Int) acc ((v : Int) - 1) = some (acc ++ be N v, 0) := by
  intro v
  induction v with
  | zero =>
    intro k acc hv ha hk
    obtain ⟨k, rfl⟩ : ∃ m, k = m + 1 := ⟨k - 1, by omega⟩
    simp only [wayfinderref02_Put.l0]
    rw [if_neg (by omega)]
    simp [be]
  | succ v ih =>
    intro k acc hv ha hk
    obtain ⟨k, rfl⟩ : ∃ m, k = m + 1 := ⟨k - 1, by omega⟩
    have hp : v = 0 ∨ v = 1 ∨ v = 2 ∨ v = 3 := by omega
    have hpow := r_power k (by omega) (v : Int) (by omega)
    have hb : be (N : Nat) (v + 1) = ((N / 256 ^ v % 256 : Nat) : Int) :: be N v := rfl
    rw [Int.toNat_natCast] at hpow
    have h256 : 0 < 256 ^ v := Nat.pow_pos (by decide)
    rw [hb]
    generalize 256 ^ v = p at hpow h256 ⊢
    have hd := digit N p hN
    have hne : ¬ ((p : Nat) : Int) = 0 := by omega
    have hI := ih k (acc ++ [((N / p % 256 : Nat) : Int)]) (by omega) (by rw [List.length_append]; simp; omega) (by omega)
    have hw : wrap64 ((v : Int) - 1) = (v : Int) - 1 := by unfold wrap64; omega
    have c1 : acc.length < 140737488355328 := by omega
    have c2 : (v : Int) ≥ 0 := by omega
    simp only [wayfinderref02_Put.l0]
    rw [show (((v + 1 : Nat) : Int) - 1) = (v : Int) from by omega, if_pos c2, hpow]
    simp only [Option.bind_some]
    rw [if_neg hne, if_pos c1, hd, hw, hI]
    simp
theorem r_Put (k : Nat) (hk : 20 ≤ k) (n w : Int) : wayfinderref02_Put.f k n w = some (putR n w) := by
  obtain ⟨k, rfl⟩ : ∃ m, k = m + 1 := ⟨k - 1, by omega⟩
  unfold wayfinderref02_Put.f putR
  by_cases h1 : w < 1
  · rw [if_pos h1, if_neg (fun h : mayPut n w => by have := h.1; omega)]
    simp only [wayfinderref02_Put.j0, if_true]
  · rw [if_neg h1]
    by_cases h2 : w > 4
    · rw [if_pos h2, if_neg (fun h : mayPut n w => by have := h.2.1; omega)]
      simp only [wayfinderref02_Put.j0, if_true]
    · rw [if_neg h2]
      by_cases h3 : n < 0
      · rw [if_pos h3, if_neg (fun h : mayPut n w => by have := h.2.2.1; omega)]
        simp only [wayfinderref02_Put.j0, if_true]
      · rw [if_neg h3, r_power (k + 1) (by omega) w (by omega)]
        simp only [Option.bind_some, wayfinderref02_Put.j0]
        by_cases h4 : n < ((256 ^ w.toNat : Nat) : Int)
        · have hm : mayPut n w := ⟨by omega, by omega, by omega, h4⟩
          have hn : n < 4294967296 := by
            rcases mayPut_cases hm with rfl | rfl | rfl | rfl <;> simp at h4 <;> omega
          obtain ⟨N, rfl⟩ := Int.eq_ofNat_of_zero_le (by omega : 0 ≤ n)
          obtain ⟨v, rfl⟩ := Int.eq_ofNat_of_zero_le (by omega : 0 ≤ w)
          have hr := r_Put_l N (by omega) v k [] (by omega) (by simp; omega) (by omega)
          have hw : wrap64 ((v : Int) - 1) = (v : Int) - 1 := by unfold wrap64; omega
          rw [if_pos hm, decide_eq_false (by omega), if_neg (by decide), hw, hr]
          simp
        · rw [if_neg (fun h : mayPut n w => h4 h.2.2.2), decide_eq_true (by omega), if_pos rfl]
theorem wrap_s (i : Nat) (h : i ≤ 1000000000) : wrap64 ((i : Int) + 1) = ((i + 1 : Nat) : Int) := by unfold wrap64; omega
theorem rd_a (l : List Int) (i : Nat) (h : i < l.length) : rd l (i : Int) = l[i] := by simp [rd, List.getD, h]
theorem r_PutAll_l (l ws : List Int) (hl : l.length = ws.length) (h2 : l.length ≤ 1000000) (d : Nat) : ∀ (i k : Nat) (acc : List Int), i + d = l.length → d + 21 < k → acc.length ≤ 4 * i →
    wayfinderref02_PutAll.l0 k l ws acc (i : Int) = some (match paR (l.drop i) (ws.drop i) with | some b => (acc ++ b, 0) | none => ([], 1)) := by
  induction d with
  | zero =>
    intro i k acc hi hk ha
    obtain ⟨k, rfl⟩ : ∃ m, k = m + 1 := ⟨k - 1, by omega⟩
    simp only [wayfinderref02_PutAll.l0]
    rw [if_neg (by omega), List.drop_eq_nil_of_le (by omega)]
    simp [paR]
  | succ d ih =>
    intro i k acc hi hk ha
    obtain ⟨k, rfl⟩ : ∃ m, k = m + 1 := ⟨k - 1, by omega⟩
    have c1 : (i : Int) < (l.length : Int) := by omega
    have c2 : 0 ≤ (i : Int) := by omega
    have c3 : (i : Int) < (ws.length : Int) := by omega
    have i1 : i < l.length := by omega
    have i2 : i < ws.length := by omega
    have hI := fun (acc' : List Int) (h : acc'.length ≤ 4 * (i + 1)) => ih (i + 1) k acc' (by omega) (by omega) h
    simp only [wayfinderref02_PutAll.l0]
    rw [if_pos c1, if_pos c2, if_pos c3, r_Put k (by omega), wrap_s i (by omega)]
    simp only [Option.bind_some]
    rw [List.drop_eq_getElem_cons i1, List.drop_eq_getElem_cons i2, ← rd_a l i i1, ← rd_a ws i i2]
    simp only [paR, putR]
    by_cases hm : mayPut (rd l (i : Int)) (rd ws (i : Int))
    · simp only [if_pos hm]
      have hlen := be_length (rd l (i : Int)).toNat (rd ws (i : Int)).toNat
      have := hm.2.1
      simp only [if_true]
      have hsz : acc.length + (be (rd l (i : Int)).toNat (rd ws (i : Int)).toNat).length < 140737488355328 := by rw [hlen]; omega
      have hac : (acc ++ be (rd l (i : Int)).toNat (rd ws (i : Int)).toNat).length ≤ 4 * (i + 1) := by rw [List.length_append, hlen]; omega
      rw [if_pos hsz, hI _ hac]
      cases paR (l.drop (i + 1)) (ws.drop (i + 1)) with
      | none => rfl
      | some b => simp
    · simp [if_neg hm]
theorem r_PutAll (k : Nat) (l ws : List Int) (h2 : l.length ≤ 1000000) (hk : l.length + 22 < k) : wayfinderref02_PutAll.f k l ws = some (putAllR l ws) := by
  unfold wayfinderref02_PutAll.f putAllR
  by_cases h : l.length = ws.length
  · rw [if_pos (by omega), if_pos h]
    have := r_PutAll_l l ws h h2 l.length 0 k [] (by omega) (by omega) (by simp)
    rw [List.drop_zero, List.drop_zero] at this
    rw [show ((0 : Nat) : Int) = 0 from rfl] at this
    rw [this]
    unfold outPa
    cases paR l ws <;> simp
  · rw [if_neg (by omega), if_neg h]
end Go.Proofs.YtdmajldpebooeaaDoor.All
