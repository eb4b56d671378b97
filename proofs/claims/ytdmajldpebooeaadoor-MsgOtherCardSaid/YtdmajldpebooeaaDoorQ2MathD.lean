/- Plain facts on numbers in bytes and on checksums, and what the printed functions of package octets come to. -/
import Derived.Test.YtdmajldpebooeaaDoorQ2Allx0
import Derived.Lib.Bytes
set_option linter.unusedVariables false
set_option linter.unusedSimpArgs false
namespace Go.Proofs.YtdmajldpebooeaaDoor.All
open Go.RowKit Go.Proofs.YtdmajldpebooeaaDoorW.PrintWords Go.Proofs.YtdmajldpebooeaaDoorW.PrintLast Go.Proofs.YtdmajldpebooeaaDoorW.PrintMore
namespace OB
def Bys (l : List Int) : Prop := ∀ x ∈ l, 0 ≤ x ∧ x ≤ 255
theorem Bys.tail {a : Int} {l : List Int} (h : Bys (a :: l)) : Bys l := fun x hx => h x (by simp [hx])
theorem Bys.head {a : Int} {l : List Int} (h : Bys (a :: l)) : 0 ≤ a ∧ a ≤ 255 := h a (by simp)
theorem Bys.append {l m : List Int} (h : Bys l) (k : Bys m) : Bys (l ++ m) := by
  intro x hx
  rcases List.mem_append.mp hx with hx | hx
  · exact h x hx
  · exact k x hx
theorem Bys.take {l : List Int} (h : Bys l) (n : Nat) : Bys (l.take n) := fun x hx => h x (List.mem_of_mem_take hx)
theorem Bys.drop {l : List Int} (h : Bys l) (n : Nat) : Bys (l.drop n) := fun x hx => h x (List.mem_of_mem_drop hx)
theorem Bys.set {l : List Int} (h : Bys l) (i : Nat) (v : Int) (hv : 0 ≤ v ∧ v ≤ 255) : Bys (l.set i v) := by
  intro x hx
  rcases List.mem_or_eq_of_mem_set hx with hx | rfl
  · exact h x hx
  · exact hv
theorem Bys.all {l : List Int} (h : Bys l) : (l.all fun x => decide (0 ≤ x) && decide (x ≤ 255)) = true := by
  rw [List.all_eq_true]
  intro x hx
  have := h x hx
  simp [this.1, this.2]
def be (n : Nat) : Nat → List Int
  | 0 => []
  | w + 1 => ((n / 256 ^ w % 256 : Nat) : Int) :: be n w
theorem be_length (n w : Nat) : (be n w).length = w := by induction w with | zero => rfl | succ w ih => simp [be, ih]
theorem be_bytes (n w : Nat) : Bys (be n w) := by
  induction w with
  | zero => intro x hx; simp [be] at hx
  | succ w ih =>
    intro x hx
    rcases List.mem_cons.mp hx with rfl | hx
    · have := Nat.mod_lt (n / 256 ^ w) (by decide : 256 > 0)
      omega
    · exact ih x hx
def val : List Int → Nat
  | [] => 0
  | a :: t => a.toNat * 256 ^ t.length + val t
theorem val_be (n w : Nat) : val (be n w) = n % 256 ^ w := by
  induction w with
  | zero => simp [be, val, Nat.mod_one]
  | succ w ih =>
    simp only [be, val, be_length, ih, Int.toNat_natCast]
    rw [Nat.pow_succ, Nat.mod_mul, Nat.mul_comm, Nat.add_comm]
theorem map_inj : ∀ (l m : List Int), Bys l → Bys m → l.map (fun n => UInt8.ofNat n.toNat) = m.map (fun n => UInt8.ofNat n.toNat) → l = m
  | [], [], _, _, _ => rfl
  | [], b :: m, _, _, h => by simp at h
  | a :: l, [], _, _, h => by simp at h
  | a :: l, b :: m, hl, hm, h => by
    simp only [List.map_cons, List.cons.injEq] at h
    have e := map_inj l m hl.tail hm.tail h.2
    have h1 := congrArg UInt8.toNat h.1
    have a1 := hl.head
    have b1 := hm.head
    simp only [UInt8.toNat_ofNat'] at h1
    rw [Nat.mod_eq_of_lt (by omega), Nat.mod_eq_of_lt (by omega)] at h1
    rw [e]
    congr 1
    omega
theorem str_inj {l m : List Int} (hl : Bys l) (hm : Bys m) : (strOfNums l).toList = (strOfNums m).toList ↔ l = m := by
  constructor
  · intro h
    rw [Lib.strOfNums_toList, Lib.strOfNums_toList] at h
    exact map_inj l m hl hm h
  · rintro rfl
    rfl
theorem str_beq {l m : List Int} (hl : Bys l) (hm : Bys m) : ((strOfNums l).toList == (strOfNums m).toList) = decide (l = m) := by
  rw [Bool.eq_iff_iff, beq_iff_eq, decide_eq_true_iff, str_inj hl hm]
def mayPut (n w : Int) : Prop := 1 ≤ w ∧ w ≤ 4 ∧ 0 ≤ n ∧ n < ((256 ^ w.toNat : Nat) : Int)
instance (n w : Int) : Decidable (mayPut n w) := by unfold mayPut; infer_instance
def putR (n w : Int) : List Int × Int := if mayPut n w then (be n.toNat w.toNat, 0) else ([], 1)
end OB
end Go.Proofs.YtdmajldpebooeaaDoor.All
