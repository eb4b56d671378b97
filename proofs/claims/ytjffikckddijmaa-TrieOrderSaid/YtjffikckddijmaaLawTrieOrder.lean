/- The law TrieOrder: for every input the call returns true, and each argument reads behind it as it read before. No condition. (The walk of the Go text, joined with the plain law.) -/
import Derived.Test.YtjffikckddijmaaRows
import Derived.Test.YtjffikckddijmaaTriRw
import Derived.Test.YtjffikckddijmaaLwOrder
import Derived.WalkKit
import Derived.ProofKit
import Derived.OpenShut
import Derived.ShutString
import Derived.ChangeOld
import Derived.Below
import Derived.SizedLaws
import Derived.Test.YtjffikckddijmaaWSized
namespace Go.Proofs.Ytjffikckddijmaa.trieOrder
open Go.ChangeShapes Go.WideShapes Go.ChangeAt Go.RowKit
open Go.ChangeMaps (open_string shut_string)
set_option linter.unusedVariables false
theorem own : ownKnob Try.prog.godebug = none := by kernel_rfl
theorem laidOut : laidOutB Try.prog = true := by kernel_rfl
set_option maxRecDepth 100000 in
theorem lifted (os : Os) (started : os.Started) (H : Type) (enc : TypeId × Value → H) :
    ReturnsInHanded {} Try.checked os 9 .any (Rows.trieOrderSpec.pre6 enc Try.prog Try.f9 Rows.trieOrderRow.domain false) (Rows.trieOrderSpec.post enc Try.prog Try.f9 false true false false) := by
  refine returnsInHanded_of_change_sized (C := Try.checked) own started (by kernel_rfl) Try.func9
    (ChangeSpec.witness6 (enc := enc) (C := Try.checked) false ⟨#[], #[.slice none 0 0, .slice none 0 0], []⟩ 8 (by kernel_rfl) (by kernel_rfl) (by kernel_rfl) (by kernel_rfl)) ?_
  intro W base args ds gs before hval0 hW hcnd hsz0 _
  have hsz : (DataW.weightsEach Try.prog (Try.f9.params.toList ++ Rows.trieOrderSpec.plain.varTypes Try.prog) (ds ++ gs)).all (· ≤ reachBytes) = true := hsz0
  have hval : ∀ (j : Nat) t v, Try.f9.params[j]? = some t → args[j]? = some v → Value.okWide Try.prog W .any base t v := hval0
  have hW' := hW
  obtain ⟨p, q, hA0, hV, rfl, hfz, hnd⟩ := hW
  have hA : DataW.TrodAll enc Try.prog W 0 (fun _ => true) true Try.f9.params.toList args.toList ds p := hA0
  rw [Try.params9] at hA hval hsz
  obtain ⟨v0, vs0, d0, ds0, p0, q0, hargs, rfl, rfl, h0, r0⟩ := trodAll_cons hA
  obtain ⟨v1, vs1, d1, ds1, p1, q1, rfl, rfl, rfl, h1, r1⟩ := trodAll_cons r0
  obtain ⟨rfl, rfl, rfl⟩ := trodAll_nil r1
  obtain rfl : args = #[v0, v1] := by cases args; simp_all
  obtain ⟨rfl, rfl⟩ := trodVars_none hV
  obtain ⟨a0, len0, cap0, rfl⟩ := okWide_slice Try.underlying22 (hval 0 22 v0 rfl rfl)
  have k0 := h0
  have lt0 : ∀ x ∈ p0, x.block < W.heap.size := by obtain ⟨m, hm⟩ := k0; exact DataW.trod_lt m _ _ _ hm
  obtain ⟨z0, hz0, hc0, w0⟩ : ∃ l : List All.S33, l.length = len0 ∧ len0 ≤ cap0 ∧ Go.Proofs.YtjffikckddijmaaW.PrintWords.Kd.C All.k33 W a0 len0 l := by
    obtain ⟨fuel, hf⟩ := h0
    haveI : Inhabited All.S33 := ⟨All.z33⟩
    exact open_rows All.k33 Try.underlying22 (by kernel_rfl) (fun hh => by obtain ⟨a0, a1, a2, rfl, _⟩ := opens33 hh; exact ⟨⟨⟨a0, a1⟩, a2⟩, All.k33_mk _ _⟩) hf
  subst hz0
  obtain ⟨a1, len1, cap1, rfl⟩ := okWide_slice Try.underlying52 (hval 1 52 v1 rfl rfl)
  have k1 := h1
  have lt1 : ∀ x ∈ p1, x.block < W.heap.size := by obtain ⟨m, hm⟩ := k1; exact DataW.trod_lt m _ _ _ hm
  obtain ⟨z1, hz1, hc1, w1⟩ : ∃ l : List All.S31, l.length = len1 ∧ len1 ≤ cap1 ∧ Go.Proofs.YtjffikckddijmaaW.PrintWords.Kd.C All.k31 W a1 len1 l := by
    obtain ⟨fuel, hf⟩ := h1
    haveI : Inhabited All.S31 := ⟨All.z31⟩
    exact open_rows All.k31 Try.underlying52 (by kernel_rfl) (fun hh => by obtain ⟨a0, a1, rfl, _⟩ := opens31 hh; exact ⟨⟨a0, a1⟩, All.k31_mk _ _⟩) hf
  subst hz1
  clear hA0 hval0 hsz0 hsz
  refine (trieOrder_calls a0 cap0 z0 a1 cap1 z1 W w0 hc0 w1 hc1).mono fun e W' ⟨he, bel⟩ => ?_
  subst he
  exact ⟨_, rfl, _, _, _, [], _, [], hW', trodAll_mk1 (shut_bool Try.underlying4 _), (trodAll_cons_mk (Below.trod laidOut (by kernel_rfl) (of_decide_eq_true (by kernel_rfl)) k0 bel lt0) (trodAll_cons_mk (Below.trod laidOut (by kernel_rfl) (of_decide_eq_true (by kernel_rfl)) k1 bel lt1) trodAll_mk0)), rfl, bel.frame _, fun h => by cases h⟩
theorem over : Rows.trieOrderRow.holds Try.pinned (OpenSpec.ofChange Rows.trieOrderSpec) :=
  OpenClaim.holds_of_wide 9 Try.f9 rfl rfl rfl rfl rfl rfl rfl ⟨rfl, rfl, rfl, rfl, rfl⟩ rfl rfl rfl rfl rfl (by kernel_rfl) Try.func9 (by kernel_rfl)
    (of_decide_eq_true (by kernel_rfl)) (by unfold Func.isWrapper; first | (rw [if_pos (by decide +kernel)]; kernel_rfl) | (rw [if_neg (by decide +kernel)]; exact ⟨rfl, rfl⟩))
    (fun os started H enc _ => lifted os started H enc)
theorem proved : Rows.TrieOrderSaid := over
#print axioms proved
end Go.Proofs.Ytjffikckddijmaa.trieOrder
namespace Go.Proofs.Ytjffikckddijmaa
/-- The row, under a short name, for the claim. -/
theorem trieOrder_holds : Rows.TrieOrderSaid := trieOrder.proved
end Go.Proofs.Ytjffikckddijmaa
