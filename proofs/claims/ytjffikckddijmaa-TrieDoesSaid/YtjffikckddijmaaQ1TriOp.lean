/-
  Chapter 7: the ops of TrieDoes, as values: Op (type 47).
-/
import Derived.Test.YtjffikckddijmaaQ1TriRw
namespace Go.Proofs.Ytjffikckddijmaa.All
open Go.RowKit Go.Proofs.YtjffikckddijmaaW.PrintWords Go.Proofs.YtjffikckddijmaaW.PrintLast Go.Proofs.YtjffikckddijmaaW.PrintMore
set_option linter.unusedVariables false
set_option linter.unusedSimpArgs false
structure S47 where
  f0 : Int
  f1 : Int
  f2 : S31
def z47 : S47 := ⟨0, 0, z31⟩
def k47 : Kd S47 := Kd.iso (Kd.pair (Kd.int .i64) (Kd.pair (Kd.int .i64) k31)) (fun x : S47 => (x.f0, x.f1, x.f2))
theorem k47_open {w : World} {x : S47} {cs : List Value} (h : k47.K w x cs) : cs = [.int .i64 x.f0, .int .i64 x.f1, .int .i64 x.f2.f0, .int .i64 x.f2.f1] := by
  obtain ⟨_, _, rfl, rfl, ⟨_, _, rfl, rfl, s⟩⟩ := h
  obtain rfl := k31_open s
  exact rfl
theorem k47_mk (w : World) (x : S47) : k47.K w x [.int .i64 x.f0, .int .i64 x.f1, .int .i64 x.f2.f0, .int .i64 x.f2.f1] := ⟨[.int .i64 x.f0], [.int .i64 x.f1, .int .i64 x.f2.f0, .int .i64 x.f2.f1], rfl, rfl, ⟨[.int .i64 x.f1], [.int .i64 x.f2.f0, .int .i64 x.f2.f1], rfl, rfl, k31_mk w x.f2⟩⟩
def rd_T47 (xs : List S47) (i : Int) : S47 := xs.getD i.toNat z47
theorem at_T47 {w : World} {A : Option Addr} {n : Nat} {xs : List S47} (h : Kd.C k47 w A n xs) (i : Int) (h0 : 0 ≤ i) (h1 : i < n) : ∃ ad, A = some ad ∧ w.cell? (ad.add (i.toNat * 4)) = some (.int .i64 (rd_T47 xs i).f0) ∧ w.cell? ⟨(ad.add (i.toNat * 4)).block, (ad.add (i.toNat * 4)).off + 1, none⟩ = some (.int .i64 (rd_T47 xs i).f1) ∧ w.cell? ⟨(ad.add (i.toNat * 4)).block, (ad.add (i.toNat * 4)).off + 2, none⟩ = some (.int .i64 (rd_T47 xs i).f2.f0) ∧ w.cell? ⟨(ad.add (i.toNat * 4)).block, (ad.add (i.toNat * 4)).off + 3, none⟩ = some (.int .i64 (rd_T47 xs i).f2.f1) := by
  obtain ⟨ad, c, e, _, hK, hc0⟩ := Kd.C_get h z47 i h0 h1
  have hc : ∀ j u, c[j]? = some u → w.cell? (ad.add (i.toNat * 4 + j)) = some u := hc0
  obtain rfl := k47_open hK
  exact ⟨ad, e, hc 0 _ rfl, by rw [← add_field _ _ 1 (by omega)]; exact hc 1 _ rfl, by rw [← add_field _ _ 2 (by omega)]; exact hc 2 _ rfl, by rw [← add_field _ _ 3 (by omega)]; exact hc 3 _ rfl⟩
end Go.Proofs.Ytjffikckddijmaa.All
namespace Go.Proofs.Ytjffikckddijmaa
open Go.ChangeShapes Go.WideShapes Go.ChangeAt Go.RowKit Go.Proofs.YtjffikckddijmaaW.PrintWords Go.Proofs.YtjffikckddijmaaW.PrintLast Go.Proofs.YtjffikckddijmaaW.PrintMore
open All
set_option linter.unusedVariables false
set_option linter.unusedSimpArgs false
theorem opens47 {H : Type} {enc : TypeId × Value → H} {w : World} {base : Nat} {spare : Nat → Bool} {held : Bool} {fuel : Nat} {cs : List Value} {x : DataW H × List MemPlace} (h : DataW.trod enc Try.prog w base spare held fuel 47 cs = some x) :
    ∃ (a0 : Int) (a1 : Int) (a2 : Int) (a3 : Int), cs = [.int .i64 a0, .int .i64 a1, .int .i64 a2, .int .i64 a3] ∧ True := by
  obtain ⟨xs, n, _, _, hl, hlen, hg⟩ := DataW.trod_struct Try.underlying47 h
  have hl' : cs.length = 4 := hl.trans (by kernel_rfl)
  match cs, hl', xs, hlen with
  | [c0, c1, c2, c3], _, [y0, y1, y2], _ =>
    have g0 : DataW.trod enc Try.prog w base spare held n 3 (([c0, c1, c2, c3].drop 0).take (Try.prog.cellsOf 3)) = some y0 := hg 0 _ rfl
    have e0 : Try.prog.cellsOf 3 = 1 := by kernel_rfl
    rw [e0] at g0
    replace g0 : DataW.trod enc Try.prog w base spare held n 3 [c0] = some y0 := g0
    have g1 : DataW.trod enc Try.prog w base spare held n 3 (([c0, c1, c2, c3].drop 1).take (Try.prog.cellsOf 3)) = some y1 := hg 1 _ rfl
    rw [e0] at g1
    replace g1 : DataW.trod enc Try.prog w base spare held n 3 [c1] = some y1 := g1
    have g2 : DataW.trod enc Try.prog w base spare held n 31 (([c0, c1, c2, c3].drop 2).take (Try.prog.cellsOf 31)) = some y2 := hg 2 _ rfl
    have e2 : Try.prog.cellsOf 31 = 2 := by kernel_rfl
    rw [e2] at g2
    replace g2 : DataW.trod enc Try.prog w base spare held n 31 [c2, c3] = some y2 := g2
    obtain ⟨a0, ha0, _, w0⟩ := DataW.trod_int Try.underlying3 g0
    simp only [List.cons.injEq, and_true] at ha0
    obtain rfl := ha0
    obtain ⟨a1, ha1, _, w1⟩ := DataW.trod_int Try.underlying3 g1
    simp only [List.cons.injEq, and_true] at ha1
    obtain rfl := ha1
    obtain ⟨a2, a3, ha2, _, _⟩ := opens31 g2
    simp only [List.cons.injEq, and_true] at ha2
    obtain ⟨rfl, rfl⟩ := ha2
    exact ⟨a0, a1, a2, a3, rfl, trivial⟩
end Go.Proofs.Ytjffikckddijmaa
