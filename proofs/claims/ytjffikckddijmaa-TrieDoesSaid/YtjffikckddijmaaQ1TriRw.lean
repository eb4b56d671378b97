/-
  Chapter 7: arguments of the laws, read: slices of structs.
-/
import Derived.Test.YtjffikckddijmaaQ1Allx0
import Derived.Deep.Slices
import Derived.WalkKit
import Derived.ProofKit
import Derived.OpenShut
import Derived.ShutString
import Derived.ChangeOld
import Derived.Below
import Derived.SizedLaws
import Derived.ChangeSlices
namespace Go.Proofs.Ytjffikckddijmaa
open Go.ChangeShapes Go.WideShapes Go.ChangeAt Go.RowKit Go.Proofs.YtjffikckddijmaaW.PrintWords Go.Proofs.YtjffikckddijmaaW.PrintLast Go.Proofs.YtjffikckddijmaaW.PrintMore
open All
set_option linter.unusedVariables false
set_option linter.unusedSimpArgs false
set_option linter.unusedSimpArgs false in
theorem opens31 {H : Type} {enc : TypeId × Value → H} {w : World} {base : Nat} {spare : Nat → Bool} {held : Bool} {fuel : Nat} {cs : List Value} {x : DataW H × List MemPlace} (h : DataW.trod enc Try.prog w base spare held fuel 31 cs = some x) :
    ∃ (a0 : Int) (a1 : Int), cs = [.int .i64 a0, .int .i64 a1] ∧ (Lit.int .i64 a0).wf = true ∧ (Lit.int .i64 a1).wf = true := by
  obtain ⟨xs, n, _, _, hl, hlen, hg⟩ := DataW.trod_struct Try.underlying31 h
  have hl' : cs.length = 2 := hl.trans (by kernel_rfl)
  match cs, hl', xs, hlen with
  | [c0, c1], _, [y0, y1], _ =>
    have g0 : DataW.trod enc Try.prog w base spare held n 3 (([c0, c1].drop 0).take (Try.prog.cellsOf 3)) = some y0 := hg 0 _ rfl
    have e0 : Try.prog.cellsOf 3 = 1 := by kernel_rfl
    rw [e0] at g0
    replace g0 : DataW.trod enc Try.prog w base spare held n 3 [c0] = some y0 := g0
    have g1 : DataW.trod enc Try.prog w base spare held n 3 (([c0, c1].drop 1).take (Try.prog.cellsOf 3)) = some y1 := hg 1 _ rfl
    have e1 : Try.prog.cellsOf 3 = 1 := by kernel_rfl
    rw [e1] at g1
    replace g1 : DataW.trod enc Try.prog w base spare held n 3 [c1] = some y1 := g1
    obtain ⟨a0, ha0, _, w0⟩ := DataW.trod_int Try.underlying3 g0
    simp only [List.cons.injEq, and_true] at ha0
    obtain rfl := ha0
    obtain ⟨a1, ha1, _, w1⟩ := DataW.trod_int Try.underlying3 g1
    simp only [List.cons.injEq, and_true] at ha1
    obtain rfl := ha1
    exact ⟨a0, a1, rfl, w0, w1⟩
theorem open_rows {α : Type} [Inhabited α] (d : Kd α) {H : Type} {enc : TypeId × Value → H} {W : World} {base : Nat} {spare : Nat → Bool} {held : Bool} {t e : TypeId} {a : Option Addr} {len cap : Nat} {x : DataW H × List MemPlace} {fuel : Nat}
    (ht : Try.prog.underlying t = some (.slice e)) (hs : Try.prog.cellsOf e = d.sz)
    (ho : ∀ {fuel : Nat} {cs : List Value} {y : DataW H × List MemPlace}, DataW.trod enc Try.prog W base spare held fuel e cs = some y → ∃ z, d.K W z cs)
    (h : DataW.trod enc Try.prog W base spare held fuel t [.slice a len cap] = some x) : ∃ l : List α, l.length = len ∧ len ≤ cap ∧ d.C W a len l := by
  rcases Go.Deep.open_slice ht h with ⟨hcs, _⟩ | ⟨b, n, c, m, k, D, Pl, hcs, _, hl, hm, hmm, _, hi⟩
  · simp at hcs
    obtain ⟨rfl, rfl, rfl⟩ := hcs
    exact ⟨[], rfl, Nat.le_refl _, rfl, by simp [maxLen], fun hp => absurd hp (Nat.lt_irrefl 0)⟩
  · simp at hcs
    obtain ⟨rfl, rfl, rfl⟩ := hcs
    have hlm : len ≤ m := by rw [hmm]; split <;> omega
    have hY : ∀ i, ∃ z, i < len → ∃ cs', W.cells? base (b.add (i * Try.prog.cellsOf e)) (Try.prog.cellsOf e) = some cs' ∧ d.K W z cs' := by
      intro i
      by_cases h : i < len
      · obtain ⟨cs', h1, h2⟩ := hi i (by omega)
        obtain ⟨z, hz⟩ := ho h2
        exact ⟨z, fun _ => ⟨cs', h1, hz⟩⟩
      · exact ⟨default, fun h' => absurd h' h⟩
    obtain ⟨Y, hYY⟩ := Classical.axiomOfChoice hY
    refine ⟨(List.range len).map Y, by simp, hl, by simp, by have : maxLen = 9223372036854775807 := rfl; omega, fun hp => ⟨b, rfl, fun j p hj => ?_⟩⟩
    have hjl : j < len := by
      have := (List.getElem?_eq_some_iff.1 hj).1
      simpa using this
    obtain ⟨cs', h1, h2⟩ := hYY j hjl
    have hp' : p = Y j := by
      simp [List.getElem?_map, List.getElem?_range hjl] at hj
      exact hj.symm
    subst hp'
    obtain ⟨_, hlen, hc⟩ := World.cells?_some h1
    refine ⟨cs', by rw [hlen, hs], h2, fun i u hu => ?_⟩
    have hil : i < Try.prog.cellsOf e := by rw [← hlen]; exact (List.getElem?_eq_some_iff.1 hu).1
    have := hc i hil
    rw [hu, hs] at this
    have e : b.add (j * d.sz + i) = (b.add (j * d.sz)).add i := (Go.Deep.add_add b _ _).symm
    rw [e]
    exact this
end Go.Proofs.Ytjffikckddijmaa
