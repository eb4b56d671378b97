/- What the condition on the listed variable msg.kinds gives the walks: its cells. The door's own heap meets it. -/
import Derived.Test.YtpaoofkahhhjaaaDoorRows
import Derived.Test.YtpaoofkahhhjaaaDoorTie
import Derived.Test.YtpaoofkahhhjaaaDoorQ5Allx6
import Derived.ProofKit
import Derived.LaidMore
import Derived.OpenShut
import Derived.Stop.Joined
import Derived.WalkKit
namespace Go.Proofs.YtpaoofkahhhjaaaDoor.All
open Go.ChangeShapes Go.WideShapes Go.ChangeAt Go.WideMaps Go.WideElems Go.RowKit Go.Proofs.YtpaoofkahhhjaaaDoorW.PrintWords
set_option linter.unusedVariables false
set_option linter.unusedSimpArgs false
abbrev laidV : List (String × DataW Unit) := [("wayfinder/msg.kinds", Rows.laid_wayfinder_msg_kinds)]
theorem gKinds : Tryd.prog.globalNamed "wayfinder/msg.kinds" = some 0 := by kernel_rfl
theorem tKinds : (Tryd.prog.globals[0]?).map (·.type) = some 56 := by kernel_rfl
theorem door_met (os : Os) (args : Array Value) : laidMetH Tryd.prog laidV ((World.doorLaid Tryd.prog 400 os).forCall (fun _ _ => 0) ⟨#[], args, []⟩).memory :=
  laidMetH_of_parts3 (fuel := 8) (laidMet_of_run' 8 (by kernel_rfl) (by kernel_rfl)) (by kernel_rfl) (by kernel_rfl)
theorem told46 {H : Type} {enc : TypeId × Value → H} {w : World} {base : Nat} {spare : Nat → Bool} {held : Bool} {fuel : Nat} {cs : List Value} {x : DataW H × List MemPlace} {a b : Int} (h : DataW.trod enc Tryd.prog w base spare held fuel 53 cs = some x) (hx : x.1 = .agg [.lit (.int .i64 a), .lit (.int .i64 b)]) :
    cs = [.int .i64 a, .int .i64 b] := by
  obtain ⟨xs, n, _, rfl, hl, hlen, hg⟩ := DataW.trod_struct Tryd.underlying53 h
  have hl' : cs.length = 2 := hl.trans (by kernel_rfl)
  match cs, hl', xs, hlen with
  | [c0, c1], _, [y0, y1], _ =>
    have e0 : Tryd.prog.cellsOf 3 = 1 := by kernel_rfl
    have g0 : DataW.trod enc Tryd.prog w base spare held n 3 (([c0, c1].drop 0).take (Tryd.prog.cellsOf 3)) = some y0 := hg 0 _ rfl
    rw [e0] at g0
    replace g0 : DataW.trod enc Tryd.prog w base spare held n 3 [c0] = some y0 := g0
    have g1 : DataW.trod enc Tryd.prog w base spare held n 3 (([c0, c1].drop 1).take (Tryd.prog.cellsOf 3)) = some y1 := hg 1 _ rfl
    rw [e0] at g1
    replace g1 : DataW.trod enc Tryd.prog w base spare held n 3 [c1] = some y1 := g1
    obtain ⟨a0, ha0, rfl, _⟩ := DataW.trod_int Tryd.underlying3 g0
    obtain ⟨a1, ha1, rfl, _⟩ := DataW.trod_int Tryd.underlying3 g1
    simp only [List.cons.injEq, and_true] at ha0 ha1
    subst ha0
    subst ha1
    simp only [List.map_cons, List.map_nil, DataW.agg.injEq, List.cons.injEq, DataW.lit.injEq, Lit.int.injEq, and_true, true_and] at hx
    obtain ⟨rfl, rfl⟩ := hx
    rfl
theorem told48 {H : Type} {enc : TypeId × Value → H} {w : World} {base : Nat} {spare : Nat → Bool} {held : Bool} {fuel : Nat} {cs : List Value} {x : DataW H × List MemPlace} {a b c d : Int} {e : Bool} (h : DataW.trod enc Tryd.prog w base spare held fuel 55 cs = some x) (hx : x.1 = .agg [.agg [.lit (.int .i64 a), .lit (.int .i64 b)], .agg [.lit (.int .i64 c), .lit (.int .i64 d)], .lit (.bool e)]) :
    cs = [.int .i64 a, .int .i64 b, .int .i64 c, .int .i64 d, .bool e] := by
  obtain ⟨xs, n, _, rfl, hl, hlen, hg⟩ := DataW.trod_struct Tryd.underlying55 h
  have hl' : cs.length = 5 := hl.trans (by kernel_rfl)
  match cs, hl', xs, hlen with
  | [c0, c1, c2, c3, c4], _, [y0, y1, y2], _ =>
    have e46 : Tryd.prog.cellsOf 53 = 2 := by kernel_rfl
    have e4 : Tryd.prog.cellsOf 4 = 1 := by kernel_rfl
    have g0 : DataW.trod enc Tryd.prog w base spare held n 53 (([c0, c1, c2, c3, c4].drop 0).take (Tryd.prog.cellsOf 53)) = some y0 := hg 0 _ rfl
    rw [e46] at g0
    replace g0 : DataW.trod enc Tryd.prog w base spare held n 53 [c0, c1] = some y0 := g0
    have g1 : DataW.trod enc Tryd.prog w base spare held n 53 (([c0, c1, c2, c3, c4].drop 2).take (Tryd.prog.cellsOf 53)) = some y1 := hg 1 _ rfl
    rw [e46] at g1
    replace g1 : DataW.trod enc Tryd.prog w base spare held n 53 [c2, c3] = some y1 := g1
    have g2 : DataW.trod enc Tryd.prog w base spare held n 4 (([c0, c1, c2, c3, c4].drop 4).take (Tryd.prog.cellsOf 4)) = some y2 := hg 2 _ rfl
    rw [e4] at g2
    replace g2 : DataW.trod enc Tryd.prog w base spare held n 4 [c4] = some y2 := g2
    obtain ⟨a2, ha2, rfl⟩ := DataW.trod_bool Tryd.underlying4 g2
    simp only [List.map_cons, List.map_nil, DataW.agg.injEq, List.cons.injEq, DataW.lit.injEq, Lit.bool.injEq, and_true] at hx
    obtain ⟨h0, h1, rfl⟩ := hx
    have r0 := told46 g0 h0
    have r1 := told46 g1 h1
    simp only [List.cons.injEq, and_true] at r0 r1 ha2
    obtain ⟨rfl, rfl⟩ := r0
    obtain ⟨rfl, rfl⟩ := r1
    subst ha2
    rfl
theorem glob_of_laid {W : World} (h : laidMetH Tryd.prog laidV W) : Glob W := by
  rw [MakeChecks.laidMetH_plain _ _ _ (by kernel_rfl)] at h
  obtain ⟨ps, ⟨g0, t0, cs0, f0, p0, q0, hg0, ht0, hv0, hd0, _, hps⟩, _, hcells⟩ := h
  obtain rfl := Option.some.inj (gKinds.symm.trans hg0)
  obtain rfl := Option.some.inj (tKinds.symm.trans ht0)
  obtain ⟨xs, m1, _, hx1, hl, hn, hel⟩ := DataW.trod_array Tryd.underlying56 hd0
  have c48 : Tryd.prog.cellsOf 55 = 5 := by kernel_rfl
  have c49 : Tryd.prog.cellsOf 56 = 30 := by kernel_rfl
  rw [c49] at hl
  simp only [Prod.mk.injEq, Rows.laid_wayfinder_msg_kinds, DataW.agg.injEq] at hx1
  obtain ⟨hx2, _⟩ := hx1
  match xs, hn, hx2, hel with
  | [x0, x1, x2, x3, x4, x5], _, hx2, hel =>
    simp only [List.map_cons, List.map_nil, List.cons.injEq, and_true] at hx2
    obtain ⟨d0, d1, d2, d3, d4, d5⟩ := hx2
    rw [c48] at hel
    have r0 := told48 (show DataW.trod _ Tryd.prog W 0 _ false m1 55 _ = some x0 from hel 0 (by decide)) d0.symm
    have r1 := told48 (show DataW.trod _ Tryd.prog W 0 _ false m1 55 _ = some x1 from hel 1 (by decide)) d1.symm
    have r2 := told48 (show DataW.trod _ Tryd.prog W 0 _ false m1 55 _ = some x2 from hel 2 (by decide)) d2.symm
    have r3 := told48 (show DataW.trod _ Tryd.prog W 0 _ false m1 55 _ = some x3 from hel 3 (by decide)) d3.symm
    have r4 := told48 (show DataW.trod _ Tryd.prog W 0 _ false m1 55 _ = some x4 from hel 4 (by decide)) d4.symm
    have r5 := told48 (show DataW.trod _ Tryd.prog W 0 _ false m1 55 _ = some x5 from hel 5 (by decide)) d5.symm
    have hT : cs0.toList = msg_table.toList := by
      have h0 : cs0.toList = (cs0.toList.drop (0 * 5)).take 5 ++ ((cs0.toList.drop (1 * 5)).take 5 ++ ((cs0.toList.drop (2 * 5)).take 5 ++ ((cs0.toList.drop (3 * 5)).take 5 ++ ((cs0.toList.drop (4 * 5)).take 5 ++ (cs0.toList.drop (5 * 5)).take 5)))) := by
        generalize cs0.toList = L at hl
        match L, hl with
        | [e0, e1, e2, e3, e4, e5, e6, e7, e8, e9, e10, e11, e12, e13, e14, e15, e16, e17, e18, e19, e20, e21, e22, e23, e24, e25, e26, e27, e28, e29], _ => rfl
      rw [h0, r0, r1, r2, r3, r4, r5]
      rfl
    have hA : cs0 = msg_table := Array.toList_inj.mp hT
    subst hA
    have hmem : MemPlace.cell 0 0 ∈ ps := by
      rw [hps]
      refine List.mem_append_left _ (List.mem_append_left _ ?_)
      simp [MemPlace.row, msg_table]
    obtain ⟨⟨c, t, hc⟩, _⟩ := hcells 0 0 hmem
    refine ⟨c, t, hc, fun i hi => ?_⟩
    have h1 := qql hc i
    have h2 := World.var?_cell hg0 hv0 i
    exact h1.symm.trans h2
end Go.Proofs.YtpaoofkahhhjaaaDoor.All
