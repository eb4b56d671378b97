/- Bytes of an even number, whose checksum stands behind them, have the checksum 0; one byte that is another one makes it another one (at most 3000 bytes). -/
import Derived.Test.YtjcjkfiebmbdmaaAllx2
import Derived.Test.YtjcjkfiebmbdmaaMathB
import Derived.Laws.BitsAllLaws
set_option linter.unusedVariables false
set_option linter.unusedSimpArgs false
namespace Go.Proofs.Ytjcjkfiebmbdmaa.Pure
open Go.RowKit Go.Proofs.Ytjcjkfiebmbdmaa.All Go.Proofs.YtjcjkfiebmbdmaaW.PrintWords Go.Proofs.YtjcjkfiebmbdmaaW.PrintLast Go.Proofs.YtjcjkfiebmbdmaaW.PrintMore
open Go.Proofs.Ytjcjkfiebmbdmaa.All.OB

theorem xor_ne (c m : Int) (hc : 0 ≤ c ∧ c ≤ 255) (hm : 0 ≤ m ∧ m ≤ 255) (h : ¬ m = 0) : 0 ≤ Go.bits .xor .u8 c m ∧ Go.bits .xor .u8 c m ≤ 255 ∧ Go.bits .xor .u8 c m ≠ c := by
  rw [Go.u8_xor c m hc.1 (by omega) hm.1 (by omega)]
  have h1 : c.toNat ^^^ m.toNat < 2 ^ 8 := Nat.xor_lt_two_pow (by omega) (by omega)
  refine ⟨by omega, by omega, ?_⟩
  intro e
  have e2 : c.toNat ^^^ m.toNat = c.toNat := by omega
  have e3 : m.toNat = 0 := by
    apply Nat.eq_of_testBit_eq
    intro i
    have h := congrArg (fun n => n.testBit i) e2
    simp only [Nat.testBit_xor] at h
    rw [Nat.zero_testBit]
    revert h
    cases c.toNat.testBit i <;> cases m.toNat.testBit i <;> decide
  omega
theorem OctetsSum : wayfinderlaw02_OctetsSum.Pure := by
  intro b at_ m _ _ hw _ hm
  have hb := Bys.of_wf hw
  have hm' : 0 ≤ m ∧ m ≤ 255 := by
    have := Bys.of_wf (l := [m]) (by intro x hx; simp at hx; subst hx; exact hm)
    exact this m (by simp)
  refine ⟨5001, ?_⟩
  unfold wayfinderlaw02_OctetsSum.f
  rw [f_awake _ (by omega)]
  simp only [Option.bind_some, if_true, wayfinderlaw02_OctetsSum.j0]
  by_cases h1 : (b.length : Int) > 3000
  · rw [if_pos h1]
  rw [if_neg h1]
  by_cases h2 : ((b.length : Int) % 2 != 0) = true
  · rw [h2, if_pos rfl]
  have h2' : ((b.length : Int) % 2 != 0) = false := by simpa using h2
  have hpar : b.length % 2 = 0 := by
    rw [bne_eq_false_iff_eq] at h2'
    omega
  have hck := OM.F_range (OM.SP true b) (OM.SP_nonneg true b hb).1
  have hck2 : 0 ≤ OM.ck b ∧ OM.ck b ≤ 65535 := by unfold OM.ck; omega
  have hput : putR (OM.ck b) 2 = ([OM.ck b / 256 % 256, OM.ck b % 256], 0) := by
    unfold putR
    rw [if_pos ⟨by omega, by omega, hck2.1, by show OM.ck b < ((256 ^ 2 : Nat) : Int); simp; omega⟩]
    obtain ⟨c, hc⟩ := Int.eq_ofNat_of_zero_le hck2.1
    rw [hc]
    simp [be]
  have c0 : ([] : List Int).length + b.length < 140737488355328 := by simp; omega
  have c1 : b.length + [OM.ck b / 256 % 256, OM.ck b % 256].length < 140737488355328 := by simp; omega
  have hall : Bys (b ++ [OM.ck b / 256 % 256, OM.ck b % 256]) := hb.append (by intro x hx; simp at hx; omega)
  have hself := OM.ck_self b hb hpar
  have hlen : (b ++ [OM.ck b / 256 % 256, OM.ck b % 256]).length = b.length + 2 := by simp
  rw [h2', if_neg (by decide), f_Sum _ hb (by omega)]
  simp only [Option.bind_some]
  rw [f_Put _ (by omega), hput]
  simp only [Option.bind_some, List.nil_append]
  rw [if_pos c0, if_pos c1, if_pos trivial, f_Sum _ hall (by omega), hself]
  simp only [Option.bind_some, bne_self_eq_false, wayfinderlaw02_OctetsSum.j1, Bool.false_eq_true, if_false]
  by_cases h3 : at_ < 0
  · rw [if_pos h3]
  rw [if_neg h3]
  by_cases h4 : at_ ≥ (b.length : Int)
  · rw [if_pos h4]
  rw [if_neg h4]
  by_cases h5 : m = 0
  · rw [if_pos h5]
  rw [if_neg h5]
  have c2 : 0 ≤ at_ := by omega
  have c3 : at_ < ((b ++ [OM.ck b / 256 % 256, OM.ck b % 256]).length : Int) := by omega
  obtain ⟨A, rfl⟩ := Int.eq_ofNat_of_zero_le c2
  have hx := xor_ne _ m (hall.get (A : Int)) hm' h5
  rw [if_pos c2, if_pos c3, Int.toNat_natCast, f_Sum _ (hall.set A _ ⟨hx.1, hx.2.1⟩) (by rw [List.length_set]; omega)]
  simp only [Option.bind_some, Option.some.injEq, bne_iff_ne]
  refine OM.ck_set _ hall A (by omega) _ ⟨hx.1, hx.2.1⟩ ?_ hself
  have e : rd (b ++ [OM.ck b / 256 % 256, OM.ck b % 256]) (A : Int) = (b ++ [OM.ck b / 256 % 256, OM.ck b % 256]).getD A 0 := by simp [rd]
  rw [← e]
  exact hx.2.2
end Go.Proofs.Ytjcjkfiebmbdmaa.Pure
