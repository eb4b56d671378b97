/- A rule in bytes comes back, whatever bytes are behind it; bytes that hold a rule are what the rule is put in (at most 3000 bytes). -/
import Derived.Test.YtjnbnjlkljpbeaaAllx17
import Derived.Test.YtjnbnjlkljpbeaaMathJ
set_option linter.unusedVariables false
set_option linter.unusedSimpArgs false
namespace Go.Proofs.Ytjnbnjlkljpbeaa.Pure
open Go.RowKit Go.Proofs.Ytjnbnjlkljpbeaa.All Go.Proofs.YtjnbnjlkljpbeaaW.PrintWords Go.Proofs.YtjnbnjlkljpbeaaW.PrintLast
open Go.Proofs.Ytjnbnjlkljpbeaa.All.BM Go.Proofs.Ytjnbnjlkljpbeaa.All.OB
theorem back_j1 (k : Nat) (hk : 20 ≤ k) (b : List Int) (hb : Bys b) : wayfinderlaw04_RuleBack.j1 (k + 1) b = some true := by
  simp only [wayfinderlaw04_RuleBack.j1]
  rw [f_RGet k hk b hb]
  simp only [Option.bind_some]
  unfold rGetR
  by_cases h : b.length < 9
  · rw [if_pos h]; rfl
  · rw [if_neg h]
    by_cases hr : isRule ((val (b.take 4) : Nat) : Int) (rd b 4) (rd b 5 - 1) (rd b 6) (rd b 7) (rd b 8)
    · rw [if_pos hr]
      simp only [if_true]
      rw [f_RPut k hk]
      unfold rPutR
      rw [if_pos hr]
      simp only [Option.bind_some, if_true]
      rw [if_pos (by omega), if_pos (by omega), rPut_get b hb (by omega) hr]
      simp
    · rw [if_neg hr]; rfl
theorem RuleBack : wayfinderlaw04_RuleBack.Pure := by
  intro p l i q k o b _ _ _ _ _ _ _ hl hw
  have hb := Bys.of_wf hw
  refine ⟨5001, ?_⟩
  unfold wayfinderlaw04_RuleBack.f
  rw [f_awake4 _ (by omega)]
  simp only [Option.bind_some, if_true, wayfinderlaw04_RuleBack.j0]
  by_cases h : (b.length : Int) > 3000
  · rw [decide_eq_true h, if_pos rfl]
  · rw [decide_eq_false h, if_neg (by decide), f_RPut _ (by omega), f_RMay]
    simp only [Option.bind_some]
    unfold rPutR
    by_cases hr : isRule p l i q k o
    · rw [if_pos hr, decide_eq_true hr]
      simp only [List.nil_append, List.length_nil, Nat.zero_add]
      have hn := ruleBytes_length p l i q k o
      have hbb : Bys (ruleBytes p l i q k o ++ b) := (ruleBytes_bytes hr).append hb
      rw [if_neg (by decide), if_pos trivial, if_pos (by omega), if_pos (by omega), f_RGet _ (by omega) _ hbb, rGet_put hr]
      simp only [Option.bind_some, if_true]
      rw [if_neg (by simp), if_pos (by omega)]
      exact back_j1 4999 (by omega) b hb
    · rw [if_neg hr, decide_eq_false hr]
      rw [if_neg (by decide), if_neg (by decide)]
      exact back_j1 4999 (by omega) b hb
end Go.Proofs.Ytjnbnjlkljpbeaa.Pure
