/- One byte of a packet's bytes that is another one, one more, and fewer, are none. -/
import Derived.Test.YtkidokbeabmpmaaDoorAllx16
import Derived.Test.YtkidokbeabmpmaaDoorMathM
set_option linter.unusedVariables false
set_option linter.unusedSimpArgs false
namespace Go.Proofs.YtkidokbeabmpmaaDoor.Pure
open Go.RowKit Go.Proofs.YtkidokbeabmpmaaDoor.All Go.Proofs.YtkidokbeabmpmaaDoorW.PrintWords Go.Proofs.YtkidokbeabmpmaaDoorW.PrintLast
open Go.Proofs.YtkidokbeabmpmaaDoor.All.OB
theorem f_awake3 (k : Nat) (hk : 200 ≤ k) : wayfinderlaw03_awake.f k = some true := by
  unfold wayfinderlaw03_awake.f
  rw [f_PPut k (by omega)]
  have hr : isPkt 1 2 3 4 5 := by decide
  have hbts : pktBytes 1 2 3 4 5 = [0, 0, 0, 1, 0, 0, 0, 2, 0, 0, 0, 3, 0, 4, 0, 5, 255, 240] := by decide +kernel
  simp only [pPutR, if_pos hr, Option.bind_some, if_true, hbts]
  decide
theorem xor_ne (c m : Int) (hc : 0 ≤ c ∧ c ≤ 255) (hm : 0 ≤ m ∧ m ≤ 255) (h : ¬ m = 0) : 0 ≤ Go.bits .xor .u8 c m ∧ Go.bits .xor .u8 c m ≤ 255 ∧ Go.bits .xor .u8 c m ≠ c := by
  rw [Go.u8_xor c m hc.1 (by omega) hm.1 (by omega)]
  have h1 : c.toNat ^^^ m.toNat < 2 ^ 8 := Nat.xor_lt_two_pow (by omega) (by omega)
  refine ⟨by omega, by omega, ?_⟩
  intro e
  have e2 : c.toNat ^^^ m.toNat = c.toNat := by omega
  have e3 : m.toNat = 0 := by
    apply Nat.eq_of_testBit_eq
    intro i
    have h := congrArg (fun n => n.testBit i) e2
    simp only [Nat.testBit_xor] at h
    rw [Nat.zero_testBit]
    revert h
    cases c.toNat.testBit i <;> cases m.toNat.testBit i <;> decide
  omega
theorem PacketSpoilt : wayfinderlaw03_PacketSpoilt.Pure := by
  intro a b c t g n m _ _ _ _ _ _ hm
  have hm1 : Bys [m] := Bys.of_wf (by intro x hx; simp only [List.mem_cons, List.not_mem_nil, or_false] at hx; subst hx; exact hm)
  have hm' : 0 ≤ m ∧ m ≤ 255 := hm1 m (by simp)
  refine ⟨5001, ?_⟩
  unfold wayfinderlaw03_PacketSpoilt.f
  rw [f_awake3 _ (by omega), f_PPut _ (by omega)]
  simp only [Option.bind_some, if_true]
  unfold pPutR
  by_cases hp : isPkt a b c t g
  · rw [if_pos hp]
    have hlen := pktBytes_length a b c t g
    have hbb := pktBytes_bytes a b c t g
    have hck := pkt_ck a b c t g
    simp only [if_true, wayfinderlaw03_PacketSpoilt.j0]
    by_cases h1 : n < 0
    · rw [if_pos h1]
    rw [if_neg h1]
    by_cases h2 : n ≥ ((pktBytes a b c t g).length : Int)
    · rw [if_pos h2]
    rw [if_neg h2]
    by_cases h3 : m = 0
    · rw [beq_iff_eq.2 h3, if_pos rfl]
    rw [beq_eq_false_iff_ne.2 h3, if_neg (by decide)]
    obtain ⟨N, rfl⟩ := Int.eq_ofNat_of_zero_le (by omega : 0 ≤ n)
    have hx := xor_ne _ m (hbb.get (N : Int)) hm' h3
    have hbs := hbb.set N _ ⟨hx.1, hx.2.1⟩
    have hsl : ((pktBytes a b c t g).set N (Go.bits .xor .u8 (rd (pktBytes a b c t g) (N : Int)) m)).length = 18 := by rw [List.length_set]; exact hlen
    have hne : OM.ck ((pktBytes a b c t g).set N (Go.bits .xor .u8 (rd (pktBytes a b c t g) (N : Int)) m)) ≠ 0 :=
      OM.ck_set _ hbb N (by omega) _ ⟨hx.1, hx.2.1⟩ (by have := hx.2.2; unfold rd at this ⊢; rw [Int.toNat_natCast] at this ⊢; exact this) hck
    simp only [List.nil_append, List.length_nil, Nat.zero_add, Option.bind_some, Int.toNat_natCast]
    have g1 : (pGetR ((pktBytes a b c t g).set N (Go.bits .xor .u8 (rd (pktBytes a b c t g) (N : Int)) m))).2.2.2.2.2 = 4 := by
      unfold pGetR
      rw [if_neg (by omega), if_neg (by omega), if_neg hne]
    have g2 : (pGetR ((pktBytes a b c t g).take N)).2.2.2.2.2 = 3 := by
      unfold pGetR
      rw [if_pos (by rw [List.length_take]; omega)]
    have g3 : (pGetR (pktBytes a b c t g ++ [m])).2.2.2.2.2 = 2 := by
      have hl : (pktBytes a b c t g ++ [m]).length = 19 := by rw [List.length_append, hlen]; rfl
      unfold pGetR
      rw [if_neg (by omega), if_pos (by omega)]
    rw [if_pos (by omega), if_pos (by omega), if_pos (by omega), f_PGet _ (by omega) _ hbs]
    simp only [Option.bind_some]
    rw [if_pos (by omega), f_PGet _ (by omega) _ (hbb.take N)]
    simp only [Option.bind_some]
    rw [if_pos (by omega), f_PGet _ (by omega) _ (hbb.append hm1)]
    simp only [Option.bind_some]
    rw [if_pos g1, if_pos g2, g3]
    rfl
  · rw [if_neg hp]
    simp [wayfinderlaw03_PacketSpoilt.j0]
end Go.Proofs.YtkidokbeabmpmaaDoor.Pure
