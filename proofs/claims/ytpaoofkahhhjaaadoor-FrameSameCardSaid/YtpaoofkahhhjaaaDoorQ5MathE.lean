/- What the printed functions of package octets come to, in the words of the plain facts on bytes. -/
import Derived.Test.YtpaoofkahhhjaaaDoorQ5Allx0
import Derived.Test.YtpaoofkahhhjaaaDoorQ5Allx13
import Derived.Test.YtpaoofkahhhjaaaDoorQ5Allx6
import Derived.Test.YtpaoofkahhhjaaaDoorQ5Allx7
import Derived.Test.YtpaoofkahhhjaaaDoorQ5MathD
set_option linter.unusedVariables false
set_option linter.unusedSimpArgs false
namespace Go.Proofs.YtpaoofkahhhjaaaDoor.All
open Go.RowKit Go.Proofs.YtpaoofkahhhjaaaDoorW.PrintWords Go.Proofs.YtpaoofkahhhjaaaDoorW.PrintLast Go.Proofs.YtpaoofkahhhjaaaDoorW.PrintMore
open OB
theorem wrap_succ (i : Nat) (h : i ≤ 1000000000) : wrap64 ((i : Int) + 1) = ((i + 1 : Nat) : Int) := by unfold wrap64; omega
theorem rd_at (l : List Int) (i : Nat) (h : i < l.length) : rd l (i : Int) = l[i] := by simp [rd, List.getD, h]
theorem f_may (w : Int) : octets_may.f w = some (decide (1 ≤ w ∧ w ≤ 4)) := by
  unfold octets_may.f
  by_cases h : w ≥ 1
  · rw [if_pos h]
    congr 1
    rw [Bool.eq_iff_iff, decide_eq_true_iff, decide_eq_true_iff]
    omega
  · rw [if_neg h, decide_eq_false (by omega)]
theorem shr_of (n : Int) (j : Nat) (h : j ≤ 63) : shr .i64 n (j : Int) = n / ((2 ^ j : Nat) : Int) := by
  unfold shr
  rw [show min ((j : Int)).toNat IntKind.i64.bits = j from by show min ((j : Int)).toNat 64 = j; omega]
  norm_cast
theorem shr_vals (n : Int) : shr .i64 n 0 = n ∧ shr .i64 n 8 = n / 256 ∧ shr .i64 n 16 = n / 65536 ∧ shr .i64 n 24 = n / 16777216 ∧ shr .i64 n 32 = n / 4294967296 := by
  have s0 := shr_of n 0 (by decide)
  have s1 := shr_of n 8 (by decide)
  have s2 := shr_of n 16 (by decide)
  have s3 := shr_of n 24 (by decide)
  have s4 := shr_of n 32 (by decide)
  exact ⟨by simpa using s0, by simpa using s1, by simpa using s2, by simpa using s3, by simpa using s4⟩
theorem f_Put_l (k : Nat) (hk : 8 ≤ k) (n w : Int) (hw : w = 1 ∨ w = 2 ∨ w = 3 ∨ w = 4) (h0 : 0 ≤ n) : octets_Put.l0 k n w (List.replicate w.toNat 0) w 0 = some (be n.toNat w.toNat, 0) := by
  obtain ⟨k, rfl⟩ : ∃ m, k = m + 5 := ⟨k - 5, by omega⟩
  obtain ⟨N, rfl⟩ := Int.eq_ofNat_of_zero_le h0
  obtain ⟨s0, s1, s2, s3, _⟩ := shr_vals (N : Int)
  rcases hw with rfl | rfl | rfl | rfl
  · simp [octets_Put.l0, wrap64, be, List.replicate, s0, s1, s2, s3]
  · simp [octets_Put.l0, wrap64, be, List.replicate, s0, s1, s2, s3]
  · simp [octets_Put.l0, wrap64, be, List.replicate, s0, s1, s2, s3]
  · simp [octets_Put.l0, wrap64, be, List.replicate, s0, s1, s2, s3]
theorem f_Put (k : Nat) (hk : 10 ≤ k) (n w : Int) : octets_Put.f k n w = some (putR n w) := by
  obtain ⟨k, rfl⟩ : ∃ m, k = m + 1 := ⟨k - 1, by omega⟩
  unfold octets_Put.f putR
  rw [f_may]
  simp only [Option.bind_some]
  by_cases h1 : 1 ≤ w ∧ w ≤ 4
  · rw [decide_eq_true h1, if_pos rfl]
    have hw : w = 1 ∨ w = 2 ∨ w = 3 ∨ w = 4 := by omega
    by_cases h2 : n < 0
    · rw [if_pos h2, if_neg (fun h : mayPut n w => by have := h.2.2.1; omega)]
      simp only [octets_Put.j0, if_true]
    · rw [if_neg h2]
      have e : wrap64 (8 * w) = 8 * w := by unfold wrap64; omega
      rw [e, if_pos (by omega)]
      have hl := f_Put_l k (by omega) n w hw (by omega)
      obtain ⟨s0, s1, s2, s3, s4⟩ := shr_vals n
      have key : (shr .i64 n (8 * w) != 0) = !decide (n < ((256 ^ w.toNat : Nat) : Int)) := by
        rcases hw with rfl | rfl | rfl | rfl
        · rw [show (8 * 1 : Int) = 8 from rfl, s1, Bool.eq_iff_iff]; simp; omega
        · rw [show (8 * 2 : Int) = 16 from rfl, s2, Bool.eq_iff_iff]; simp; omega
        · rw [show (8 * 3 : Int) = 24 from rfl, s3, Bool.eq_iff_iff]; simp; omega
        · rw [show (8 * 4 : Int) = 32 from rfl, s4, Bool.eq_iff_iff]; simp; omega
      rw [key]
      simp only [octets_Put.j0]
      by_cases h3 : n < ((256 ^ w.toNat : Nat) : Int)
      · rw [if_pos (show mayPut n w from ⟨h1.1, h1.2, by omega, h3⟩), decide_eq_true h3, if_neg (by decide), if_pos (by omega), if_pos (by omega)]
        simp only [Option.bind_some, List.length_replicate]
        rw [show ((w.toNat : Nat) : Int) = w from by omega]
        exact hl
      · rw [if_neg (fun h : mayPut n w => h3 h.2.2.2), decide_eq_false h3, if_pos (by decide)]
  · rw [decide_eq_false h1, if_neg (by decide), if_neg (fun h : mayPut n w => h1 ⟨h.1, h.2.1⟩)]
    simp only [octets_Put.j0, if_true]
theorem f_Get_l (l : List Int) (hb : Bys l) (h4 : l.length ≤ 4) (d : Nat) : ∀ (i k : Nat), i + d = l.length → d < k → octets_Get.l0 k ((val (l.take i) : Nat) : Int) l (l.length : Int) (i : Int) = some (((val l : Nat) : Int), 0) := by
  have hv := val_lt l hb
  have hp : 256 ^ l.length ≤ 4294967296 := Nat.le_trans (Nat.pow_le_pow_right (by decide) h4) (by decide)
  induction d with
  | zero =>
    intro i k hi hk
    obtain ⟨k, rfl⟩ : ∃ m, k = m + 1 := ⟨k - 1, by omega⟩
    simp only [octets_Get.l0]
    rw [if_neg (by omega), List.take_of_length_le (by omega)]
    congr 2
    unfold wrap64
    omega
  | succ d ih =>
    intro i k hi hk
    obtain ⟨k, rfl⟩ : ∃ m, k = m + 1 := ⟨k - 1, by omega⟩
    have c1 : (i : Int) < (l.length : Int) := by omega
    have c2 : 0 ≤ (i : Int) := by omega
    have hI := ih (i + 1) k (by omega) (by omega)
    have hti : (l.take i).length = i := by rw [List.length_take]; omega
    have hvi := val_lt (l.take i) (hb.take i)
    rw [hti] at hvi
    have hpi : 256 ^ i ≤ 16777216 := Nat.le_trans (Nat.pow_le_pow_right (by decide) (by omega : i ≤ 3)) (by decide)
    have hvi : val (l.take i) < 16777216 := Nat.lt_of_lt_of_le hvi hpi
    clear hpi
    have hr := hb.get (i : Int)
    have er : rd l (i : Int) = l[i]'(by omega) := by simp [rd, List.getD, show i < l.length by omega]
    have hs : val (l.take (i + 1)) = val (l.take i) * 256 + (rd l (i : Int)).toNat := by
      rw [List.take_succ_eq_append_getElem (by omega), val_snoc, er]
    have hj : Go.bits .or .u32 ((((val (l.take i) : Nat) : Int) * 256) % 4294967296) ((rd l (i : Int)) % 4294967296) = ((val (l.take (i + 1)) : Nat) : Int) := by
      have e1 : (((val (l.take i) : Nat) : Int) * 256) % 4294967296 = ((val (l.take i) : Nat) : Int) * 256 := by omega
      have e2 : (rd l (i : Int)) % 4294967296 = rd l (i : Int) := by omega
      rw [e1, e2, Go.bits_join .u32 32 (by decide) (fun n h0 h1 => by rw [Go.IntKind.wrap_u32]; omega) 8 _ _ (by omega) (by omega) (by omega) hr.1 (by omega) (by omega), hs]
      omega
    have e3 : wrap64 ((i : Int) + 1) = ((i + 1 : Nat) : Int) := by unfold wrap64; omega
    simp only [octets_Get.l0]
    rw [if_pos c1, if_pos c2, if_pos c1, hj, e3]
    exact hI
theorem f_Get (k : Nat) (hk : 10 ≤ k) (l : List Int) (hb : Bys l) (w : Int) : octets_Get.f k l w = some (getR l w) := by
  unfold octets_Get.f getR
  rw [f_may]
  simp only [Option.bind_some]
  by_cases h1 : 1 ≤ w ∧ w ≤ 4
  · rw [decide_eq_true h1, if_pos rfl, if_pos h1]
    by_cases h2 : (l.length : Int) < w
    · rw [if_pos h2, if_pos h2]
    · rw [if_neg h2, if_neg h2, if_pos (by omega), if_pos (by omega)]
      have hlen : (l.take w.toNat).length = w.toNat := by rw [List.length_take]; omega
      have h := f_Get_l (l.take w.toNat) (hb.take _) (by omega) w.toNat 0 k (by omega) (by omega)
      rw [List.take_zero] at h
      exact h
  · rw [decide_eq_false h1, if_neg (by decide), if_neg h1]
theorem f_Sum (l : List Int) (hb : Bys l) (hl : l.length < 1099511627776) : octets_Sum.f l = some (OM.ck l) := by
  unfold octets_Sum.f
  rw [if_pos hl, if_pos hb.all]
def paR : List Int → List Int → Option (List Int)
  | n :: l, w :: ws => if mayPut n w then (match paR l ws with | some b => some (be n.toNat w.toNat ++ b) | none => none) else none
  | _, _ => some []
def outPa (r : Option (List Int)) : List Int × Int := match r with | some b => (b, 0) | none => ([], 1)
def putAllR (l ws : List Int) : List Int × Int := if l.length = ws.length then outPa (paR l ws) else ([], 1)
theorem f_PutAll_l (l ws : List Int) (hl : l.length = ws.length) (h2 : l.length ≤ 1000000) (d : Nat) : ∀ (i k : Nat) (acc : List Int), i + d = l.length → d + 11 < k → acc.length ≤ 4 * i →
    octets_PutAll.l0 k ws acc l (l.length : Int) (i : Int) = some (match paR (l.drop i) (ws.drop i) with | some b => (acc ++ b, 0) | none => ([], 1)) := by
  induction d with
  | zero =>
    intro i k acc hi hk ha
    obtain ⟨k, rfl⟩ : ∃ m, k = m + 1 := ⟨k - 1, by omega⟩
    simp only [octets_PutAll.l0]
    rw [if_neg (by omega), List.drop_eq_nil_of_le (by omega)]
    simp [paR]
  | succ d ih =>
    intro i k acc hi hk ha
    obtain ⟨k, rfl⟩ : ∃ m, k = m + 1 := ⟨k - 1, by omega⟩
    have c1 : (i : Int) < (l.length : Int) := by omega
    have c2 : 0 ≤ (i : Int) := by omega
    have c3 : (i : Int) < (ws.length : Int) := by omega
    have i1 : i < l.length := by omega
    have i2 : i < ws.length := by omega
    have hI := fun (acc' : List Int) (h : acc'.length ≤ 4 * (i + 1)) => ih (i + 1) k acc' (by omega) (by omega) h
    simp only [octets_PutAll.l0]
    rw [if_pos c1, if_pos c2, if_pos c1, if_pos c3, f_Put k (by omega), wrap_succ i (by omega)]
    simp only [Option.bind_some]
    rw [List.drop_eq_getElem_cons i1, List.drop_eq_getElem_cons i2, ← rd_at l i i1, ← rd_at ws i i2]
    simp only [paR, putR]
    by_cases hm : mayPut (rd l (i : Int)) (rd ws (i : Int))
    · simp only [if_pos hm]
      have hlen := be_length (rd l (i : Int)).toNat (rd ws (i : Int)).toNat
      have := hm.2.1
      simp only [if_true]
      have hsz : acc.length + (be (rd l (i : Int)).toNat (rd ws (i : Int)).toNat).length < 140737488355328 := by rw [hlen]; omega
      have hac : (acc ++ be (rd l (i : Int)).toNat (rd ws (i : Int)).toNat).length ≤ 4 * (i + 1) := by rw [List.length_append, hlen]; omega
      rw [if_pos hsz, hI _ hac]
      cases paR (l.drop (i + 1)) (ws.drop (i + 1)) with
      | none => rfl
      | some b => simp
    · simp [if_neg hm]
theorem f_PutAll (k : Nat) (l ws : List Int) (h2 : l.length ≤ 1000000) (hk : l.length + 12 < k) : octets_PutAll.f k l ws = some (putAllR l ws) := by
  unfold octets_PutAll.f putAllR
  by_cases h : l.length = ws.length
  · rw [if_pos (by omega), if_pos h]
    have := f_PutAll_l l ws h h2 l.length 0 k [] (by omega) (by omega) (by simp)
    rw [List.drop_zero, List.drop_zero] at this
    rw [show ((0 : Nat) : Int) = 0 from rfl] at this
    rw [this]
    unfold outPa
    cases paR l ws <;> simp
  · rw [if_neg (by omega), if_neg h]
inductive GA where
  | ok (l : List Int) (k : Nat)
  | err (e : Int)
def gaR : List Int → List Int → GA
  | b, w :: ws => if 1 ≤ w ∧ w ≤ 4 then (if (b.length : Int) < w then .err 3 else match gaR (b.drop w.toNat) ws with | .ok l k => .ok (((val (b.take w.toNat) : Nat) : Int) :: l) (w.toNat + k) | .err e => .err e) else .err 1
  | _, [] => .ok [] 0
def outGa (r : GA) : List Int × Int × Int := match r with | .ok l k => (l, (k : Int), 0) | .err e => ([], 0, e)
theorem f_GetAll_l (b : List Int) (hb : Bys b) (hlen : b.length ≤ 1000000) (ws : List Int) (h2 : ws.length ≤ 1000000) (d : Nat) : ∀ (i k c : Nat) (acc : List Int), i + d = ws.length → d + 11 < k → acc.length ≤ i → c ≤ b.length →
    octets_GetAll.l0 k b acc (b.drop c) ws (ws.length : Int) (i : Int) = some (match gaR (b.drop c) (ws.drop i) with | .ok l j => (acc ++ l, ((c + j : Nat) : Int), 0) | .err e => ([], 0, e)) := by
  induction d with
  | zero =>
    intro i k c acc hi hk ha hc
    obtain ⟨k, rfl⟩ : ∃ m, k = m + 1 := ⟨k - 1, by omega⟩
    simp only [octets_GetAll.l0]
    rw [if_neg (by omega), List.drop_eq_nil_of_le (show ws.length ≤ i by omega)]
    simp only [gaR, List.append_nil, List.length_drop]
    congr 3
    unfold wrap64
    omega
  | succ d ih =>
    intro i k c acc hi hk ha hc
    obtain ⟨k, rfl⟩ : ∃ m, k = m + 1 := ⟨k - 1, by omega⟩
    have c1 : (i : Int) < (ws.length : Int) := by omega
    have c2 : 0 ≤ (i : Int) := by omega
    have i2 : i < ws.length := by omega
    have hI := fun (c' : Nat) (acc' : List Int) (h : acc'.length ≤ i + 1) (h' : c' ≤ b.length) => ih (i + 1) k c' acc' (by omega) (by omega) h h'
    simp only [octets_GetAll.l0]
    rw [if_pos c1, if_pos c2, if_pos c1, f_Get k (by omega) _ (hb.drop c), wrap_succ i (by omega)]
    simp only [Option.bind_some]
    rw [List.drop_eq_getElem_cons i2, ← rd_at ws i i2]
    simp only [gaR, getR]
    generalize rd ws (i : Int) = w
    by_cases h1 : 1 ≤ w ∧ w ≤ 4
    · simp only [if_pos h1]
      by_cases h3 : ((b.drop c).length : Int) < w
      · simp only [if_pos h3]
        rw [if_neg (by decide)]
      · simp only [if_neg h3, if_true]
        have hdl : (b.drop c).length = b.length - c := List.length_drop
        have d1 : acc.length < 17592186044416 := by omega
        have d2 : 0 ≤ w := by omega
        have d3 : w ≤ ((b.drop c).length : Int) := by omega
        rw [if_pos d1, if_pos d2, if_pos d3, List.drop_drop, hI (c + w.toNat) _ (by rw [List.length_append]; simp; omega) (by omega)]
        cases gaR (b.drop (c + w.toNat)) (ws.drop (i + 1)) with
        | err e => rfl
        | ok l j => simp; omega
    · simp [if_neg h1]
theorem f_GetAll (k : Nat) (b : List Int) (hb : Bys b) (hlen : b.length ≤ 1000000) (ws : List Int) (h2 : ws.length ≤ 1000000) (hk : ws.length + 12 < k) : octets_GetAll.f k b ws = some (outGa (gaR b ws)) := by
  unfold octets_GetAll.f
  have := f_GetAll_l b hb hlen ws h2 ws.length 0 k 0 [] (by omega) (by omega) (by simp) (by omega)
  rw [List.drop_zero, List.drop_zero] at this
  rw [show ((0 : Nat) : Int) = 0 from rfl] at this
  rw [this]
  unfold outGa
  cases gaR b ws <;> simp
end Go.Proofs.YtpaoofkahhhjaaaDoor.All
