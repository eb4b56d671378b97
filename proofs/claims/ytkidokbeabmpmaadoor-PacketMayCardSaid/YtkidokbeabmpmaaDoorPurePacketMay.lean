/- A packet with one field beyond its bounds may not be, and has no bytes. -/
import Derived.Test.YtkidokbeabmpmaaDoorAllx6
import Derived.Test.YtkidokbeabmpmaaDoorMathM
set_option linter.unusedVariables false
set_option linter.unusedSimpArgs false
namespace Go.Proofs.YtkidokbeabmpmaaDoor.Pure
open Go.RowKit Go.Proofs.YtkidokbeabmpmaaDoor.All Go.Proofs.YtkidokbeabmpmaaDoorW.PrintWords Go.Proofs.YtkidokbeabmpmaaDoorW.PrintLast
open Go.Proofs.YtkidokbeabmpmaaDoor.All.OB
theorem f_awake3 (k : Nat) (hk : 200 ≤ k) : wayfinderlaw03_awake.f k = some true := by
  unfold wayfinderlaw03_awake.f
  rw [f_PPut k (by omega)]
  have hr : isPkt 1 2 3 4 5 := by decide
  have hbts : pktBytes 1 2 3 4 5 = [0, 0, 0, 1, 0, 0, 0, 2, 0, 0, 0, 3, 0, 4, 0, 5, 255, 240] := by decide +kernel
  simp only [pPutR, if_pos hr, Option.bind_some, if_true, hbts]
  decide
theorem may_step (k : Nat) (hk : 100 ≤ k) (l : List S23) (i : Nat) (hi : i < l.length) (h6 : l.length ≤ 6) (hn : ¬ isPkt (rd_T23 l (i : Int)).f0 (rd_T23 l (i : Int)).f1 (rd_T23 l (i : Int)).f2 (rd_T23 l (i : Int)).f3 (rd_T23 l (i : Int)).f4) :
    wayfinderlaw03_PacketMay.l0 (k + 1) l (i : Int) = wayfinderlaw03_PacketMay.l0 k l ((i + 1 : Nat) : Int) := by
  have hw : wrap64 ((i : Int) + 1) = ((i + 1 : Nat) : Int) := by unfold wrap64; omega
  simp only [wayfinderlaw03_PacketMay.l0]
  rw [if_pos (by omega), if_pos (by omega), f_PPut k hk, f_PMay]
  unfold pPutR
  rw [if_neg hn, decide_eq_false hn]
  simp only [Option.bind_some]
  rw [if_neg (by decide), if_pos trivial, if_pos (by simp), hw]
theorem may_all (l : List S23) (h6 : l.length = 6) (hn : ∀ i : Nat, i < 6 → ¬ isPkt (rd_T23 l (i : Int)).f0 (rd_T23 l (i : Int)).f1 (rd_T23 l (i : Int)).f2 (rd_T23 l (i : Int)).f3 (rd_T23 l (i : Int)).f4) (k : Nat) (hk : 200 ≤ k) :
    wayfinderlaw03_PacketMay.l0 k l 0 = some true := by
  obtain ⟨k, rfl⟩ : ∃ m, k = m + 7 := ⟨k - 7, by omega⟩
  have s0 := may_step (k + 6) (by omega) l 0 (by omega) (by omega) (hn 0 (by omega))
  have s1 := may_step (k + 5) (by omega) l 1 (by omega) (by omega) (hn 1 (by omega))
  have s2 := may_step (k + 4) (by omega) l 2 (by omega) (by omega) (hn 2 (by omega))
  have s3 := may_step (k + 3) (by omega) l 3 (by omega) (by omega) (hn 3 (by omega))
  have s4 := may_step (k + 2) (by omega) l 4 (by omega) (by omega) (hn 4 (by omega))
  have s5 := may_step (k + 1) (by omega) l 5 (by omega) (by omega) (hn 5 (by omega))
  refine (s0.trans (s1.trans (s2.trans (s3.trans (s4.trans s5))))).trans ?_
  simp only [wayfinderlaw03_PacketMay.l0]
  rw [if_neg (by omega)]
theorem may_j0 (k : Nat) (hk : 200 ≤ k) (a b c t g v : Int) (hv : v ≥ 1) (hv2 : v < 9223372036854775808) : wayfinderlaw03_PacketMay.j0 (k + 1) v true false a b c t g = some true := by
  have hwr : wrap64 (-v) = -v := by unfold wrap64; omega
  simp only [wayfinderlaw03_PacketMay.j0, Bool.false_eq_true, if_false, Option.bind_some, hwr]
  simp only [List.length_cons, List.length_nil, rd_T23, List.set, show (0 : Int).toNat = 0 from rfl, show (1 : Int).toNat = 1 from rfl, show (2 : Int).toNat = 2 from rfl, show (3 : Int).toNat = 3 from rfl, show (4 : Int).toNat = 4 from rfl, show (5 : Int).toNat = 5 from rfl, List.getD_cons_zero, List.getD_cons_succ]
  rw [if_pos (by decide), if_pos (by decide), if_pos (by decide), if_pos (by decide), if_pos (by decide), if_pos (by decide)]
  refine may_all _ rfl ?_ k hk
  intro i hi
  have h6 : i = 0 ∨ i = 1 ∨ i = 2 ∨ i = 3 ∨ i = 4 ∨ i = 5 := by omega
  unfold isPkt
  rcases h6 with rfl | rfl | rfl | rfl | rfl | rfl
  · show ¬ ((0 ≤ -v ∧ _) ∧ _); omega
  · show ¬ (_ ∧ _ ∧ _ ∧ (0 ≤ (17 : Int) ∧ (17 : Int) ≤ 16) ∧ _); omega
  · show ¬ (_ ∧ _ ∧ _ ∧ _ ∧ (0 ≤ (4096 : Int) ∧ (4096 : Int) ≤ 4095)); omega
  · show ¬ (_ ∧ _ ∧ (0 ≤ (4294967296 : Int) ∧ (4294967296 : Int) ≤ 4294967295) ∧ _ ∧ _); omega
  · show ¬ (_ ∧ (0 ≤ (-1 : Int) ∧ _) ∧ _ ∧ _ ∧ _); omega
  · show ¬ (_ ∧ _ ∧ _ ∧ (0 ≤ -v ∧ _) ∧ _); omega
theorem may_up (k : Nat) (a b c t g v : Int) : wayfinderlaw03_PacketMay.j0 (k + 1) v true true a b c t g = some true := by
  simp only [wayfinderlaw03_PacketMay.j0, if_true]
theorem PacketMay : wayfinderlaw03_PacketMay.Pure := by
  intro a b c t g v _ _ _ _ _ hv
  have hv2 : v < 9223372036854775808 := by
    simp only [Lit.wf, Bool.and_eq_true, decide_eq_true_eq] at hv
    have e2 : IntKind.i64.max = 9223372036854775807 := rfl
    omega
  refine ⟨5001, ?_⟩
  unfold wayfinderlaw03_PacketMay.f
  rw [f_awake3 _ (by omega), f_PMay]
  simp only [Option.bind_some, if_true]
  by_cases hp : isPkt a b c t g
  · rw [decide_eq_true hp, if_pos rfl]
    by_cases h1 : v < 1
    · rw [decide_eq_true h1]
      exact may_up 5000 ..
    · rw [decide_eq_false h1]
      exact may_j0 5000 (by omega) _ _ _ _ _ _ (by omega) hv2
  · rw [decide_eq_false hp, if_neg (by decide)]
    exact may_up 5000 ..
end Go.Proofs.YtkidokbeabmpmaaDoor.Pure
