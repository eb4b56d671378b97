/- One byte of a frame that is another one, one more, and fewer, are none. -/
import Derived.Test.YtpaoofkahhhjaaaDoorQ1Allx22
import Derived.Test.YtpaoofkahhhjaaaDoorQ1MathM
import Derived.Test.YtpaoofkahhhjaaaDoorQ1MathN
import Derived.Test.YtpaoofkahhhjaaaDoorQ1MathQ
import Derived.Test.YtpaoofkahhhjaaaDoorQ1MathR
set_option linter.unusedVariables false
set_option linter.unusedSimpArgs false
namespace Go.Proofs.YtpaoofkahhhjaaaDoor.Pure
open Go.RowKit Go.Proofs.YtpaoofkahhhjaaaDoor.All Go.Proofs.YtpaoofkahhhjaaaDoorW.PrintWords Go.Proofs.YtpaoofkahhhjaaaDoorW.PrintLast
open Go.Proofs.YtpaoofkahhhjaaaDoor.All.BM Go.Proofs.YtpaoofkahhhjaaaDoor.All.OB
theorem f_awake6 (k : Nat) (hk : 200 ≤ k) : wayfinderlaw06_awake.f k = some true := by
  unfold wayfinderlaw06_awake.f
  rw [f_Seal k (by omega)]
  have hr : isMsg 0 3 0 0 0 0 0 0 0 0 := by decide +kernel
  have hbts : frmBytes (msgBytes 0 3 0 0 0 0 0 0 0 0) = [197, 9, 0, 0, 0, 3, 0, 0, 0, 0, 0, 0, 58, 243] := by decide +kernel
  simp only [sealR, if_pos hr, Option.bind_some, if_true, hbts, Lib.strOfNums_toList]
  decide
theorem xor_ne (c m : Int) (hc : 0 ≤ c ∧ c ≤ 255) (hm : 0 ≤ m ∧ m ≤ 255) (h : ¬ m = 0) : 0 ≤ Go.bits .xor .u8 c m ∧ Go.bits .xor .u8 c m ≤ 255 ∧ Go.bits .xor .u8 c m ≠ c := by
  rw [Go.u8_xor c m hc.1 (by omega) hm.1 (by omega)]
  have h1 : c.toNat ^^^ m.toNat < 2 ^ 8 := Nat.xor_lt_two_pow (by omega) (by omega)
  refine ⟨by omega, by omega, ?_⟩
  intro e
  have e2 : c.toNat ^^^ m.toNat = c.toNat := by omega
  have e3 : m.toNat = 0 := by
    apply Nat.eq_of_testBit_eq
    intro i
    have h := congrArg (fun n => n.testBit i) e2
    simp only [Nat.testBit_xor] at h
    rw [Nat.zero_testBit]
    revert h
    cases c.toNat.testBit i <;> cases m.toNat.testBit i <;> decide
  omega
theorem FrameSpoilt : wayfinderlaw06_FrameSpoilt.Pure := by
  intro kd ep sq tg p l i q k o n m _ _ _ _ _ _ _ _ _ _ _ hm
  have hm1 : Bys [m] := Bys.of_wf (by intro x hx; simp only [List.mem_cons, List.not_mem_nil, or_false] at hx; subst hx; exact hm)
  have hm' : 0 ≤ m ∧ m ≤ 255 := hm1 m (by simp)
  refine ⟨5001, ?_⟩
  unfold wayfinderlaw06_FrameSpoilt.f
  rw [f_awake6 _ (by omega), f_Seal _ (by omega)]
  simp only [Option.bind_some, if_true]
  unfold sealR
  by_cases hp : isMsg kd ep sq tg p l i q k o
  · rw [if_pos hp]
    have hs := msg_small kd ep sq tg p l i q k o
    have hB := msgBytes_bytes hp
    generalize msgBytes kd ep sq tg p l i q k o = B at hs hB
    have hlen := frmBytes_length B
    have hbb := frmBytes_bytes hB
    have hck := frm_ck hB
    have gcut := oGet_cut hB (by omega)
    have gmore := oGet_more hB (by omega) m
    generalize frmBytes B = F at hlen hbb hck gcut gmore
    simp only [if_true, wayfinderlaw06_FrameSpoilt.j0]
    by_cases h1 : n < 0
    · rw [if_pos h1]
    rw [if_neg h1]
    by_cases h2 : n ≥ (F.length : Int)
    · rw [if_pos h2]
    rw [if_neg h2]
    by_cases h3 : m = 0
    · rw [beq_iff_eq.2 h3, if_pos rfl]
    rw [beq_eq_false_iff_ne.2 h3, if_neg (by decide)]
    obtain ⟨M, rfl⟩ := Int.eq_ofNat_of_zero_le (by omega : 0 ≤ n)
    have hx := xor_ne _ m (hbb.get (M : Int)) hm' h3
    have hbs := hbb.set M _ ⟨hx.1, hx.2.1⟩
    have hsl : (F.set M (Go.bits .xor .u8 (rd F (M : Int)) m)).length = F.length := List.length_set
    have hne : OM.ck (F.set M (Go.bits .xor .u8 (rd F (M : Int)) m)) ≠ 0 :=
      OM.ck_set _ hbb M (by omega) _ ⟨hx.1, hx.2.1⟩ (by have := hx.2.2; unfold rd at this ⊢; rw [Int.toNat_natCast] at this ⊢; exact this) hck
    have g1 : ¬ (oGetR (F.set M (Go.bits .xor .u8 (rd F (M : Int)) m))).2.2.2.2.2.2.2.2.2.2 = 0 := fun h => hne (oGet_ok _ h).2.2.2.1
    obtain ⟨e0, e1, e2, e3, e4, e5, e6, e7, e8, e9⟩ := oGet_bad _ g1
    have g2 := gcut M (by omega)
    simp only [List.nil_append, List.length_nil, Nat.zero_add, Option.bind_some, Int.toNat_natCast]
    rw [if_pos (by omega), if_pos (by omega), if_pos (by omega), f_Open _ (by omega) _ hbs (by omega)]
    simp only [Option.bind_some]
    rw [if_pos (by omega), f_Open _ (by omega) _ (hbb.take M) (by rw [List.length_take]; omega)]
    simp only [Option.bind_some]
    rw [if_pos (by omega), f_Open _ (by omega) _ (hbb.append hm1) (by rw [List.length_append]; simp; omega)]
    simp only [Option.bind_some]
    rw [if_neg g1, e0, e1, e2, e3, e4, e5, e6, e7, e8, e9, if_pos (by decide), if_pos g2, gmore]
    rfl
  · rw [if_neg hp]
    simp [wayfinderlaw06_FrameSpoilt.j0]
end Go.Proofs.YtpaoofkahhhjaaaDoor.Pure
