/- What the document's functions of layer 2 come to, as printed, in the words of the plain facts on bytes. -/
import Derived.Test.YtpaoofkahhhjaaaDoorQ3Allx0
import Derived.Test.YtpaoofkahhhjaaaDoorQ3Allx12
import Derived.Test.YtpaoofkahhhjaaaDoorQ3Allx13
import Derived.Test.YtpaoofkahhhjaaaDoorQ3Allx16
import Derived.Test.YtpaoofkahhhjaaaDoorQ3Allx7
import Derived.Test.YtpaoofkahhhjaaaDoorQ3MathD
import Derived.Test.YtpaoofkahhhjaaaDoorQ3MathE
set_option linter.unusedVariables false
set_option linter.unusedSimpArgs false
namespace Go.Proofs.YtpaoofkahhhjaaaDoor.All
open Go.RowKit Go.Proofs.YtpaoofkahhhjaaaDoorW.PrintWords Go.Proofs.YtpaoofkahhhjaaaDoorW.PrintLast Go.Proofs.YtpaoofkahhhjaaaDoorW.PrintMore
open OB
theorem r_power (k : Nat) (hk : 8 ≤ k) (n : Int) (h : n = 0 ∨ n = 1 ∨ n = 2 ∨ n = 3 ∨ n = 4) : wayfinderref02_power.f k n = some ((256 ^ n.toNat : Nat) : Int) := by
  obtain ⟨k, rfl⟩ : ∃ m, k = m + 6 := ⟨k - 6, by omega⟩
  unfold wayfinderref02_power.f
  rcases h with rfl | rfl | rfl | rfl | rfl
  · simp [wayfinderref02_power.l0, wrap64]
  · simp [wayfinderref02_power.l0, wrap64]
  · simp [wayfinderref02_power.l0, wrap64]
  · simp [wayfinderref02_power.l0, wrap64]
  · simp [wayfinderref02_power.l0, wrap64]
theorem wrap_id (n : Int) (h0 : 0 ≤ n) (h1 : n < 9223372036854775807) : wrap64 n = n := by unfold wrap64; omega
theorem digit (N p : Nat) (hN : N < 4294967296) : (Int.tmod (wrap64 (Int.tdiv (N : Int) (p : Int))) 256) % 256 = ((N / p % 256 : Nat) : Int) := by
  have h1 : N / p ≤ N := Nat.div_le_self _ _
  rw [Int.tdiv_eq_ediv_of_nonneg (by omega), ← Int.natCast_ediv]
  generalize N / p = q at h1
  rw [wrap_id _ (by omega) (by omega), Int.tmod_eq_emod_of_nonneg (by omega)]
  omega
theorem r_Put_l (N : Nat) (hN : N < 4294967296) : ∀ (v k : Nat) (acc : List Int), v ≤ 4 → acc.length + v ≤ 100 → v + 10 ≤ k → wayfinderref02_Put.l0 k (N : Int) acc ((v : Int) - 1) = some (acc ++ be N v, 0) := by
  intro v
  induction v with
  | zero =>
    intro k acc hv ha hk
    obtain ⟨k, rfl⟩ : ∃ m, k = m + 1 := ⟨k - 1, by omega⟩
    simp only [wayfinderref02_Put.l0]
    rw [if_neg (by omega)]
    simp [be]
  | succ v ih =>
    intro k acc hv ha hk
    obtain ⟨k, rfl⟩ : ∃ m, k = m + 1 := ⟨k - 1, by omega⟩
    have hp : v = 0 ∨ v = 1 ∨ v = 2 ∨ v = 3 := by omega
    have hpow := r_power k (by omega) (v : Int) (by omega)
    have hb : be (N : Nat) (v + 1) = ((N / 256 ^ v % 256 : Nat) : Int) :: be N v := rfl
    rw [Int.toNat_natCast] at hpow
    have h256 : 0 < 256 ^ v := Nat.pow_pos (by decide)
    rw [hb]
    generalize 256 ^ v = p at hpow h256 ⊢
    have hd := digit N p hN
    have hne : ¬ ((p : Nat) : Int) = 0 := by omega
    have hI := ih k (acc ++ [((N / p % 256 : Nat) : Int)]) (by omega) (by rw [List.length_append]; simp; omega) (by omega)
    have hw : wrap64 ((v : Int) - 1) = (v : Int) - 1 := by unfold wrap64; omega
    have c1 : acc.length < 140737488355328 := by omega
    have c2 : (v : Int) ≥ 0 := by omega
    simp only [wayfinderref02_Put.l0]
    rw [show (((v + 1 : Nat) : Int) - 1) = (v : Int) from by omega, if_pos c2, hpow]
    simp only [Option.bind_some]
    rw [if_neg hne, if_pos c1, hd, hw, hI]
    simp
theorem r_Put (k : Nat) (hk : 20 ≤ k) (n w : Int) : wayfinderref02_Put.f k n w = some (putR n w) := by
  obtain ⟨k, rfl⟩ : ∃ m, k = m + 1 := ⟨k - 1, by omega⟩
  unfold wayfinderref02_Put.f putR
  by_cases h1 : w < 1
  · rw [if_pos h1, if_neg (fun h : mayPut n w => by have := h.1; omega)]
    simp only [wayfinderref02_Put.j0, if_true]
  · rw [if_neg h1]
    by_cases h2 : w > 4
    · rw [if_pos h2, if_neg (fun h : mayPut n w => by have := h.2.1; omega)]
      simp only [wayfinderref02_Put.j0, if_true]
    · rw [if_neg h2]
      by_cases h3 : n < 0
      · rw [if_pos h3, if_neg (fun h : mayPut n w => by have := h.2.2.1; omega)]
        simp only [wayfinderref02_Put.j0, if_true]
      · rw [if_neg h3, r_power (k + 1) (by omega) w (by omega)]
        simp only [Option.bind_some, wayfinderref02_Put.j0]
        by_cases h4 : n < ((256 ^ w.toNat : Nat) : Int)
        · have hm : mayPut n w := ⟨by omega, by omega, by omega, h4⟩
          have hn : n < 4294967296 := by
            rcases mayPut_cases hm with rfl | rfl | rfl | rfl <;> simp at h4 <;> omega
          obtain ⟨N, rfl⟩ := Int.eq_ofNat_of_zero_le (by omega : 0 ≤ n)
          obtain ⟨v, rfl⟩ := Int.eq_ofNat_of_zero_le (by omega : 0 ≤ w)
          have hr := r_Put_l N (by omega) v k [] (by omega) (by simp; omega) (by omega)
          have hw : wrap64 ((v : Int) - 1) = (v : Int) - 1 := by unfold wrap64; omega
          rw [if_pos hm, decide_eq_false (by omega), if_neg (by decide), hw, hr]
          simp
        · rw [if_neg (fun h : mayPut n w => h4 h.2.2.2), decide_eq_true (by omega), if_pos rfl]
theorem wrap_s (i : Nat) (h : i ≤ 1000000000) : wrap64 ((i : Int) + 1) = ((i + 1 : Nat) : Int) := by unfold wrap64; omega
theorem rd_a (l : List Int) (i : Nat) (h : i < l.length) : rd l (i : Int) = l[i] := by simp [rd, List.getD, h]
theorem r_Get_l (l : List Int) (hb : Bys l) (w : Nat) (h4 : w ≤ 4) (hw : w ≤ l.length) (d : Nat) : ∀ (i k : Nat), i + d = w → d < k → wayfinderref02_Get.l0 k l (w : Int) ((val (l.take i) : Nat) : Int) (i : Int) = some (((val (l.take w) : Nat) : Int), 0) := by
  induction d with
  | zero =>
    intro i k hi hk
    obtain ⟨k, rfl⟩ : ∃ m, k = m + 1 := ⟨k - 1, by omega⟩
    obtain rfl : i = w := by omega
    simp only [wayfinderref02_Get.l0]
    rw [if_neg (by omega)]
  | succ d ih =>
    intro i k hi hk
    obtain ⟨k, rfl⟩ : ∃ m, k = m + 1 := ⟨k - 1, by omega⟩
    have c1 : (i : Int) < (w : Int) := by omega
    have c2 : 0 ≤ (i : Int) := by omega
    have c3 : (i : Int) < (l.length : Int) := by omega
    have i1 : i < l.length := by omega
    have hI := ih (i + 1) k (by omega) (by omega)
    have hti : (l.take i).length = i := by rw [List.length_take]; omega
    have hvi := val_lt (l.take i) (hb.take i)
    rw [hti] at hvi
    have hvi2 : val (l.take i) < 16777216 := Nat.lt_of_lt_of_le hvi (Nat.le_trans (Nat.pow_le_pow_right (by decide) (by omega : i ≤ 3)) (by decide))
    clear hvi
    have hr := hb.get (i : Int)
    have hs : val (l.take (i + 1)) = val (l.take i) * 256 + (rd l (i : Int)).toNat := by
      rw [List.take_succ_eq_append_getElem i1, val_snoc, rd_a l i i1]
    have e : wrap64 (wrap64 (((val (l.take i) : Nat) : Int) * 256) + wrap64 (rd l (i : Int))) = ((val (l.take (i + 1)) : Nat) : Int) := by
      rw [hs]
      generalize val (l.take i) = v at hvi2
      generalize rd l (i : Int) = c at hr
      rw [wrap_id (↑v * 256) (by omega) (by omega), wrap_id c (by omega) (by omega), wrap_id _ (by omega) (by omega)]
      omega
    simp only [wayfinderref02_Get.l0]
    rw [if_pos c1, if_pos c2, if_pos c3, e, wrap_s i (by omega)]
    exact hI
theorem r_Get (k : Nat) (hk : 10 ≤ k) (l : List Int) (hb : Bys l) (w : Int) : wayfinderref02_Get.f k l w = some (getR l w) := by
  obtain ⟨k, rfl⟩ : ∃ m, k = m + 1 := ⟨k - 1, by omega⟩
  unfold wayfinderref02_Get.f getR
  by_cases h1 : w < 1
  · rw [if_pos h1, if_neg (by omega)]
    simp only [wayfinderref02_Get.j0, if_true]
  · rw [if_neg h1]
    simp only [wayfinderref02_Get.j0]
    by_cases h2 : w > 4
    · rw [decide_eq_true h2, if_pos rfl, if_neg (by omega)]
    · rw [decide_eq_false h2, if_neg (by decide), if_pos (show 1 ≤ w ∧ w ≤ 4 by omega)]
      by_cases h3 : (l.length : Int) < w
      · rw [if_pos h3, if_pos h3]
      · obtain ⟨v, rfl⟩ := Int.eq_ofNat_of_zero_le (by omega : 0 ≤ w)
        rw [if_neg h3, if_neg h3, Int.toNat_natCast]
        have h := r_Get_l l hb v (by omega) (by omega) v 0 k (by omega) (by omega)
        rw [List.take_zero] at h
        exact h
theorem r_fold (n : Int) (h0 : 0 ≤ n) (h1 : n ≤ 1099511627776) (k : Nat) : wayfinderref02_Sum.l1 (k + 6) n = some (65535 - OM.F n) := by
  have small : ∀ (j : Nat) (m : Int), 0 ≤ m → m ≤ 65535 → wayfinderref02_Sum.l1 (j + 1) m = some (65535 - OM.F m) := by
    intro j m g0 g1
    simp only [wayfinderref02_Sum.l1]
    rw [if_neg (by omega), OM.F_small m g0 g1]
    congr 1
    exact wrap_id _ (by omega) (by omega)
  have step : ∀ (j : Nat) (m : Int), 65535 < m → m ≤ 1099511627776 → wayfinderref02_Sum.l1 (j + 1) m = wayfinderref02_Sum.l1 j (m / 65536 + m % 65536) := by
    intro j m g0 g1
    simp only [wayfinderref02_Sum.l1]
    rw [if_pos (by omega), Int.tdiv_eq_ediv_of_nonneg (by omega), Int.tmod_eq_emod_of_nonneg (by omega), wrap_id (m / 65536) (by omega) (by omega), wrap_id _ (by omega) (by omega)]
  have go : ∀ (j : Nat) (m B : Int), 0 ≤ m → m ≤ B → B ≤ 1099511627776 → (∀ q, 0 ≤ q → q ≤ B / 65536 + 65535 → wayfinderref02_Sum.l1 (j + 1) q = some (65535 - OM.F q)) → wayfinderref02_Sum.l1 (j + 2) m = some (65535 - OM.F m) := by
    intro j m B g0 g1 g2 hq
    by_cases g : 65535 < m
    · rw [step (j + 1) m g (by omega), hq _ (by omega) (by omega), OM.F_step m g]
    · exact small (j + 1) m g0 (by omega)
  have a1 : ∀ q, 0 ≤ q → q ≤ 65536 → wayfinderref02_Sum.l1 (k + 2) q = some (65535 - OM.F q) := by
    intro q q0 q1
    by_cases g : 65535 < q
    · rw [step (k + 1) q g (by omega), small k _ (by omega) (by omega), OM.F_step q g]
    · exact small (k + 1) q q0 (by omega)
  have a2 : ∀ q, 0 ≤ q → q ≤ 65792 → wayfinderref02_Sum.l1 (k + 3) q = some (65535 - OM.F q) := fun q q0 q1 => go (k + 1) q 65792 q0 q1 (by omega) (fun z z0 z1 => a1 z z0 (by omega))
  have a3 : ∀ q, 0 ≤ q → q ≤ 16842751 → wayfinderref02_Sum.l1 (k + 4) q = some (65535 - OM.F q) := fun q q0 q1 => go (k + 2) q 16842751 q0 q1 (by omega) (fun z z0 z1 => a2 z z0 (by omega))
  have a4 : ∀ q, 0 ≤ q → q ≤ 1099511627776 → wayfinderref02_Sum.l1 (k + 5) q = some (65535 - OM.F q) := fun q q0 q1 => go (k + 3) q 1099511627776 q0 q1 (by omega) (fun z z0 z1 => a3 z z0 (by omega))
  exact go (k + 4) n 1099511627776 h0 h1 (by omega) (fun z z0 z1 => a4 z z0 (by omega))
theorem r_Sum_l (l : List Int) (hb : Bys l) (hl : l.length ≤ 1000000) (d : Nat) : ∀ (i k : Nat), i + d = l.length → d + 7 < k → wayfinderref02_Sum.l0 k l (OM.SP true (l.take i)) (i : Int) = some (OM.ck l) := by
  induction d with
  | zero =>
    intro i k hi hk
    obtain ⟨k, rfl⟩ : ∃ m, k = m + 7 := ⟨k - 7, by omega⟩
    have hs := OM.SP_nonneg true l hb
    rw [List.take_of_length_le (by omega)]
    simp only [wayfinderref02_Sum.l0]
    rw [if_neg (by omega)]
    exact r_fold _ hs.1 (by omega) k
  | succ d ih =>
    intro i k hi hk
    obtain ⟨k, rfl⟩ : ∃ m, k = m + 1 := ⟨k - 1, by omega⟩
    have c1 : (i : Int) < (l.length : Int) := by omega
    have c2 : 0 ≤ (i : Int) := by omega
    have i1 : i < l.length := by omega
    have hI := ih (i + 1) k (by omega) (by omega)
    have hr := hb.get (i : Int)
    have hs := OM.SP_nonneg true (l.take i) (hb.take i)
    have hlen : (l.take i).length ≤ l.length := by rw [List.length_take]; omega
    have hs2 : OM.SP true (l.take i) ≤ 65280000000 := by omega
    have hn := OM.SP_take l i i1
    simp only [wayfinderref02_Sum.l0]
    rw [if_pos c1, Int.tmod_eq_emod_of_nonneg c2]
    by_cases hp : i % 2 = 0
    · rw [if_pos hp] at hn
      have e : wrap64 (OM.SP true (l.take i) + wrap64 (256 * wrap64 (rd l (i : Int)))) = OM.SP true (l.take (i + 1)) := by
        rw [hn]
        have hs1 := hs.1
        clear hn hI hs hlen
        generalize OM.SP true (l.take i) = s at hs1 hs2
        generalize rd l (i : Int) = c at hr
        rw [wrap_id c (by omega) (by omega), wrap_id (256 * c) (by omega) (by omega), wrap_id _ (by omega) (by omega)]
      rw [if_pos (show (i : Int) % 2 = 0 by omega), if_pos c2, e, wrap_s i (by omega)]
      exact hI
    · rw [if_neg hp] at hn
      have e : wrap64 (OM.SP true (l.take i) + wrap64 (rd l (i : Int))) = OM.SP true (l.take (i + 1)) := by
        rw [hn]
        have hs1 := hs.1
        clear hn hI hs hlen
        generalize OM.SP true (l.take i) = s at hs1 hs2
        generalize rd l (i : Int) = c at hr
        rw [wrap_id c (by omega) (by omega), wrap_id _ (by omega) (by omega)]
      rw [if_neg (show ¬ (i : Int) % 2 = 0 by omega), if_pos c2, e, wrap_s i (by omega)]
      exact hI
theorem r_Sum (k : Nat) (l : List Int) (hb : Bys l) (hl : l.length ≤ 1000000) (hk : l.length + 8 < k) : wayfinderref02_Sum.f k l = some (OM.ck l) :=
  r_Sum_l l hb hl l.length 0 k (by omega) (by omega)
theorem r_PutAll_l (l ws : List Int) (hl : l.length = ws.length) (h2 : l.length ≤ 1000000) (d : Nat) : ∀ (i k : Nat) (acc : List Int), i + d = l.length → d + 21 < k → acc.length ≤ 4 * i →
    wayfinderref02_PutAll.l0 k l ws acc (i : Int) = some (match paR (l.drop i) (ws.drop i) with | some b => (acc ++ b, 0) | none => ([], 1)) := by
  induction d with
  | zero =>
    intro i k acc hi hk ha
    obtain ⟨k, rfl⟩ : ∃ m, k = m + 1 := ⟨k - 1, by omega⟩
    simp only [wayfinderref02_PutAll.l0]
    rw [if_neg (by omega), List.drop_eq_nil_of_le (by omega)]
    simp [paR]
  | succ d ih =>
    intro i k acc hi hk ha
    obtain ⟨k, rfl⟩ : ∃ m, k = m + 1 := ⟨k - 1, by omega⟩
    have c1 : (i : Int) < (l.length : Int) := by omega
    have c2 : 0 ≤ (i : Int) := by omega
    have c3 : (i : Int) < (ws.length : Int) := by omega
    have i1 : i < l.length := by omega
    have i2 : i < ws.length := by omega
    have hI := fun (acc' : List Int) (h : acc'.length ≤ 4 * (i + 1)) => ih (i + 1) k acc' (by omega) (by omega) h
    simp only [wayfinderref02_PutAll.l0]
    rw [if_pos c1, if_pos c2, if_pos c3, r_Put k (by omega), wrap_s i (by omega)]
    simp only [Option.bind_some]
    rw [List.drop_eq_getElem_cons i1, List.drop_eq_getElem_cons i2, ← rd_a l i i1, ← rd_a ws i i2]
    simp only [paR, putR]
    by_cases hm : mayPut (rd l (i : Int)) (rd ws (i : Int))
    · simp only [if_pos hm]
      have hlen := be_length (rd l (i : Int)).toNat (rd ws (i : Int)).toNat
      have := hm.2.1
      simp only [if_true]
      have hsz : acc.length + (be (rd l (i : Int)).toNat (rd ws (i : Int)).toNat).length < 140737488355328 := by rw [hlen]; omega
      have hac : (acc ++ be (rd l (i : Int)).toNat (rd ws (i : Int)).toNat).length ≤ 4 * (i + 1) := by rw [List.length_append, hlen]; omega
      rw [if_pos hsz, hI _ hac]
      cases paR (l.drop (i + 1)) (ws.drop (i + 1)) with
      | none => rfl
      | some b => simp
    · simp [if_neg hm]
theorem r_PutAll (k : Nat) (l ws : List Int) (h2 : l.length ≤ 1000000) (hk : l.length + 22 < k) : wayfinderref02_PutAll.f k l ws = some (putAllR l ws) := by
  unfold wayfinderref02_PutAll.f putAllR
  by_cases h : l.length = ws.length
  · rw [if_pos (by omega), if_pos h]
    have := r_PutAll_l l ws h h2 l.length 0 k [] (by omega) (by omega) (by simp)
    rw [List.drop_zero, List.drop_zero] at this
    rw [show ((0 : Nat) : Int) = 0 from rfl] at this
    rw [this]
    unfold outPa
    cases paR l ws <;> simp
  · rw [if_neg (by omega), if_neg h]
theorem r_GetAll_l (b : List Int) (hb : Bys b) (hlen : b.length ≤ 1000000) (ws : List Int) (h2 : ws.length ≤ 1000000) (d : Nat) : ∀ (i k c : Nat) (acc : List Int), i + d = ws.length → d + 11 < k → acc.length ≤ i → c ≤ b.length →
    wayfinderref02_GetAll.l0 k b ws acc (c : Int) (i : Int) = some (match gaR (b.drop c) (ws.drop i) with | .ok l j => (acc ++ l, ((c + j : Nat) : Int), 0) | .err e => ([], 0, e)) := by
  induction d with
  | zero =>
    intro i k c acc hi hk ha hc
    obtain ⟨k, rfl⟩ : ∃ m, k = m + 1 := ⟨k - 1, by omega⟩
    simp only [wayfinderref02_GetAll.l0]
    rw [if_neg (by omega), List.drop_eq_nil_of_le (show ws.length ≤ i by omega)]
    simp [gaR]
  | succ d ih =>
    intro i k c acc hi hk ha hc
    obtain ⟨k, rfl⟩ : ∃ m, k = m + 1 := ⟨k - 1, by omega⟩
    have c1 : (i : Int) < (ws.length : Int) := by omega
    have c2 : 0 ≤ (i : Int) := by omega
    have c3 : 0 ≤ (c : Int) := by omega
    have c4 : (c : Int) ≤ (b.length : Int) := by omega
    have i2 : i < ws.length := by omega
    have hI := fun (c' : Nat) (acc' : List Int) (h : acc'.length ≤ i + 1) (h' : c' ≤ b.length) => ih (i + 1) k c' acc' (by omega) (by omega) h h'
    simp only [wayfinderref02_GetAll.l0]
    rw [if_pos c1, if_pos c3, if_pos c4, if_pos c2, Int.toNat_natCast, r_Get k (by omega) _ (hb.drop c), wrap_s i (by omega)]
    simp only [Option.bind_some]
    rw [List.drop_eq_getElem_cons i2, ← rd_a ws i i2]
    simp only [gaR, getR]
    generalize rd ws (i : Int) = w
    by_cases h1 : 1 ≤ w ∧ w ≤ 4
    · simp only [if_pos h1]
      by_cases h3 : ((b.drop c).length : Int) < w
      · simp only [if_pos h3]
        rw [if_neg (by decide)]
      · simp only [if_neg h3, if_true]
        have hdl : (b.drop c).length = b.length - c := List.length_drop
        have d1 : acc.length < 17592186044416 := by omega
        have hw : wrap64 ((c : Int) + w) = ((c + w.toNat : Nat) : Int) := by rw [wrap_id _ (by omega) (by omega)]; omega
        rw [if_pos d1, hw, List.drop_drop, hI (c + w.toNat) _ (by rw [List.length_append]; simp; omega) (by omega)]
        cases gaR (b.drop (c + w.toNat)) (ws.drop (i + 1)) with
        | err e => rfl
        | ok l j => simp; omega
    · simp [if_neg h1]
theorem r_GetAll (k : Nat) (b : List Int) (hb : Bys b) (hlen : b.length ≤ 1000000) (ws : List Int) (h2 : ws.length ≤ 1000000) (hk : ws.length + 12 < k) : wayfinderref02_GetAll.f k b ws = some (outGa (gaR b ws)) := by
  unfold wayfinderref02_GetAll.f
  have := r_GetAll_l b hb hlen ws h2 ws.length 0 k 0 [] (by omega) (by omega) (by simp) (by omega)
  rw [List.drop_zero, List.drop_zero] at this
  rw [show ((0 : Nat) : Int) = 0 from rfl] at this
  rw [this]
  unfold outGa
  cases gaR b ws <;> simp
end Go.Proofs.YtpaoofkahhhjaaaDoor.All
