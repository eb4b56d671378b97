/- What the condition on the listed variable packet.widths gives the walks: its cells. The door's own heap meets it. -/
import Derived.Test.YtkidokbeabmpmaaDoorRows
import Derived.Test.YtkidokbeabmpmaaDoorTie
import Derived.Test.YtkidokbeabmpmaaDoorAllx3
import Derived.ProofKit
import Derived.LaidMore
import Derived.OpenShut
import Derived.Stop.Joined
import Derived.WalkKit
namespace Go.Proofs.YtkidokbeabmpmaaDoor.All
open Go.ChangeShapes Go.WideShapes Go.ChangeAt Go.WideMaps Go.WideElems Go.RowKit Go.Proofs.YtkidokbeabmpmaaDoorW.PrintWords
set_option linter.unusedVariables false
set_option linter.unusedSimpArgs false
abbrev laidV : List (String × DataW Unit) := [("wayfinder/packet.widths", Rows.laid_wayfinder_packet_widths)]
theorem gWidths : Tryd.prog.globalNamed "wayfinder/packet.widths" = some 0 := by kernel_rfl
theorem tWidths : (Tryd.prog.globals[0]?).map (·.type) = some 39 := by kernel_rfl
theorem door_met (os : Os) (args : Array Value) : laidMetH Tryd.prog laidV ((World.doorLaid Tryd.prog 400 os).forCall (fun _ _ => 0) ⟨#[], args, []⟩).memory :=
  laidMetH_of_parts3 (fuel := 8) (laidMet_of_run' 8 (by kernel_rfl) (by kernel_rfl)) (by kernel_rfl) (by kernel_rfl)
theorem told3 {H : Type} {enc : TypeId × Value → H} {w : World} {base : Nat} {spare : Nat → Bool} {held : Bool} {fuel : Nat} {cs : List Value} {x : DataW H × List MemPlace} {a : Int} (h : DataW.trod enc Tryd.prog w base spare held fuel 3 cs = some x) (hx : x.1 = .lit (.int .i64 a)) :
    cs = [.int .i64 a] := by
  obtain ⟨a0, ha0, rfl, _⟩ := DataW.trod_int Tryd.underlying3 h
  simp only [DataW.lit.injEq, Lit.int.injEq, true_and] at hx
  subst hx
  exact ha0
theorem glob_of_laid {W : World} (h : laidMetH Tryd.prog laidV W) : Glob W := by
  rw [MakeChecks.laidMetH_plain _ _ _ (by kernel_rfl)] at h
  obtain ⟨ps, ⟨g0, t0, cs0, f0, p0, q0, hg0, ht0, hv0, hd0, _, hps⟩, _, hcells⟩ := h
  obtain rfl := Option.some.inj (gWidths.symm.trans hg0)
  obtain rfl := Option.some.inj (tWidths.symm.trans ht0)
  obtain ⟨xs, m1, _, hx1, hl, hn, hel⟩ := DataW.trod_array Tryd.underlying39 hd0
  have c3 : Tryd.prog.cellsOf 3 = 1 := by kernel_rfl
  have c39 : Tryd.prog.cellsOf 39 = 5 := by kernel_rfl
  rw [c39] at hl
  simp only [Prod.mk.injEq, Rows.laid_wayfinder_packet_widths, DataW.agg.injEq] at hx1
  obtain ⟨hx2, _⟩ := hx1
  match xs, hn, hx2, hel with
  | [x0, x1, x2, x3, x4], _, hx2, hel =>
    simp only [List.map_cons, List.map_nil, List.cons.injEq, and_true] at hx2
    obtain ⟨d0, d1, d2, d3, d4⟩ := hx2
    rw [c3] at hel
    have r0 := told3 (show DataW.trod _ Tryd.prog W 0 _ false m1 3 _ = some x0 from hel 0 (by decide)) d0.symm
    have r1 := told3 (show DataW.trod _ Tryd.prog W 0 _ false m1 3 _ = some x1 from hel 1 (by decide)) d1.symm
    have r2 := told3 (show DataW.trod _ Tryd.prog W 0 _ false m1 3 _ = some x2 from hel 2 (by decide)) d2.symm
    have r3 := told3 (show DataW.trod _ Tryd.prog W 0 _ false m1 3 _ = some x3 from hel 3 (by decide)) d3.symm
    have r4 := told3 (show DataW.trod _ Tryd.prog W 0 _ false m1 3 _ = some x4 from hel 4 (by decide)) d4.symm
    have hT : cs0.toList = wid_table.toList := by
      have h0 : cs0.toList = (cs0.toList.drop (0 * 1)).take 1 ++ ((cs0.toList.drop (1 * 1)).take 1 ++ ((cs0.toList.drop (2 * 1)).take 1 ++ ((cs0.toList.drop (3 * 1)).take 1 ++ ((cs0.toList.drop (4 * 1)).take 1)))) := by
        generalize cs0.toList = L at hl
        match L, hl with
        | [e0, e1, e2, e3, e4], _ => rfl
      rw [h0, r0, r1, r2, r3, r4]
      rfl
    have hA : cs0 = wid_table := Array.toList_inj.mp hT
    subst hA
    have hmem : MemPlace.cell 0 0 ∈ ps := by
      rw [hps]
      refine List.mem_append_left _ (List.mem_append_left _ ?_)
      simp [MemPlace.row, wid_table]
    obtain ⟨⟨c, t, hc⟩, _⟩ := hcells 0 0 hmem
    refine ⟨c, t, hc, fun i hi => ?_⟩
    have h1 := blk_cell hc i
    have h2 := World.var?_cell hg0 hv0 i
    exact h1.symm.trans h2
end Go.Proofs.YtkidokbeabmpmaaDoor.All
