/- Plain facts on numbers in bytes and on checksums, and what the printed functions of package octets come to. -/
import Derived.Test.YtpaoofkahhhjaaaDoorQ5Allx0
import Derived.Lib.Bytes
set_option linter.unusedVariables false
set_option linter.unusedSimpArgs false
namespace Go.Proofs.YtpaoofkahhhjaaaDoor.All
open Go.RowKit Go.Proofs.YtpaoofkahhhjaaaDoorW.PrintWords Go.Proofs.YtpaoofkahhhjaaaDoorW.PrintLast Go.Proofs.YtpaoofkahhhjaaaDoorW.PrintMore
namespace OB
def Bys (l : List Int) : Prop := ∀ x ∈ l, 0 ≤ x ∧ x ≤ 255
theorem Bys.of_wf {l : List Int} (h : ∀ x ∈ l, (Lit.int .u8 x).wf = true) : Bys l := by
  intro x hx
  have h1 := h x hx
  simp only [Lit.wf, Bool.and_eq_true, decide_eq_true_eq] at h1
  have e1 : IntKind.u8.min = 0 := rfl
  have e2 : IntKind.u8.max = 255 := rfl
  omega
theorem Bys.tail {a : Int} {l : List Int} (h : Bys (a :: l)) : Bys l := fun x hx => h x (by simp [hx])
theorem Bys.head {a : Int} {l : List Int} (h : Bys (a :: l)) : 0 ≤ a ∧ a ≤ 255 := h a (by simp)
theorem Bys.append {l m : List Int} (h : Bys l) (k : Bys m) : Bys (l ++ m) := by
  intro x hx
  rcases List.mem_append.mp hx with hx | hx
  · exact h x hx
  · exact k x hx
theorem Bys.take {l : List Int} (h : Bys l) (n : Nat) : Bys (l.take n) := fun x hx => h x (List.mem_of_mem_take hx)
theorem Bys.drop {l : List Int} (h : Bys l) (n : Nat) : Bys (l.drop n) := fun x hx => h x (List.mem_of_mem_drop hx)
theorem Bys.set {l : List Int} (h : Bys l) (i : Nat) (v : Int) (hv : 0 ≤ v ∧ v ≤ 255) : Bys (l.set i v) := by
  intro x hx
  rcases List.mem_or_eq_of_mem_set hx with hx | rfl
  · exact h x hx
  · exact hv
theorem Bys.get {l : List Int} (h : Bys l) (i : Int) : 0 ≤ rd l i ∧ rd l i ≤ 255 := by
  unfold rd
  by_cases hi : i.toNat < l.length
  · have e : l.getD i.toNat 0 = l[i.toNat] := by simp [List.getD, hi]
    rw [e]; exact h _ (List.getElem_mem hi)
  · have e : l.getD i.toNat 0 = 0 := by simp [List.getD, List.getElem?_eq_none (Nat.le_of_not_lt hi)]
    rw [e]; decide
theorem Bys.all {l : List Int} (h : Bys l) : (l.all fun x => decide (0 ≤ x) && decide (x ≤ 255)) = true := by
  rw [List.all_eq_true]
  intro x hx
  have := h x hx
  simp [this.1, this.2]
def be (n : Nat) : Nat → List Int
  | 0 => []
  | w + 1 => ((n / 256 ^ w % 256 : Nat) : Int) :: be n w
theorem be_length (n w : Nat) : (be n w).length = w := by induction w with | zero => rfl | succ w ih => simp [be, ih]
theorem be_bytes (n w : Nat) : Bys (be n w) := by
  induction w with
  | zero => intro x hx; simp [be] at hx
  | succ w ih =>
    intro x hx
    rcases List.mem_cons.mp hx with rfl | hx
    · have := Nat.mod_lt (n / 256 ^ w) (by decide : 256 > 0)
      omega
    · exact ih x hx
def val : List Int → Nat
  | [] => 0
  | a :: t => a.toNat * 256 ^ t.length + val t
theorem val_snoc (l : List Int) (c : Int) : val (l ++ [c]) = val l * 256 + c.toNat := by
  induction l with
  | nil => simp [val]
  | cons a t ih =>
    simp only [List.cons_append, val, ih, List.length_append, List.length_cons, List.length_nil, Nat.zero_add, Nat.pow_succ]
    rw [Nat.add_mul, Nat.mul_assoc, Nat.add_assoc]
theorem val_lt (l : List Int) (h : Bys l) : val l < 256 ^ l.length := by
  induction l with
  | nil => simp [val]
  | cons a t ih =>
    have h1 := h.head
    have h2 := ih h.tail
    have h3 : a.toNat * 256 ^ t.length ≤ 255 * 256 ^ t.length := Nat.mul_le_mul_right _ (by omega)
    simp only [val, List.length_cons, Nat.pow_succ]
    omega
theorem be_mod (m w j : Nat) (h : w ≤ j) : be (m % 256 ^ j) w = be m w := by
  induction w with
  | zero => rfl
  | succ w ih =>
    simp only [be, ih (by omega)]
    congr 2
    have e : (256 : Nat) ^ j = 256 ^ w * (256 * 256 ^ (j - w - 1)) := by rw [← Nat.pow_succ', ← Nat.pow_add]; congr 1; omega
    rw [e, Nat.mod_mul_right_div_self, Nat.mod_mul_right_mod]
theorem be_val (l : List Int) (h : Bys l) : be (val l) l.length = l := by
  induction l with
  | nil => rfl
  | cons a t ih =>
    have h1 := h.head
    have h2 := val_lt t h.tail
    have hp : 0 < 256 ^ t.length := Nat.pow_pos (by decide)
    simp only [val, List.length_cons, be]
    rw [Nat.add_comm (a.toNat * 256 ^ t.length), Nat.add_mul_div_right _ _ hp, Nat.div_eq_of_lt h2, Nat.zero_add, Nat.mod_eq_of_lt (by omega)]
    rw [← be_mod (val t + a.toNat * 256 ^ t.length) t.length t.length (Nat.le_refl _), Nat.add_mul_mod_self_right, be_mod _ _ _ (Nat.le_refl _), ih h.tail]
    congr 1
    omega
def mayPut (n w : Int) : Prop := 1 ≤ w ∧ w ≤ 4 ∧ 0 ≤ n ∧ n < ((256 ^ w.toNat : Nat) : Int)
instance (n w : Int) : Decidable (mayPut n w) := by unfold mayPut; infer_instance
def putR (n w : Int) : List Int × Int := if mayPut n w then (be n.toNat w.toNat, 0) else ([], 1)
def getR (l : List Int) (w : Int) : Int × Int := if 1 ≤ w ∧ w ≤ 4 then (if (l.length : Int) < w then (0, 3) else (((val (l.take w.toNat) : Nat) : Int), 0)) else (0, 1)
end OB
end Go.Proofs.YtpaoofkahhhjaaaDoor.All
