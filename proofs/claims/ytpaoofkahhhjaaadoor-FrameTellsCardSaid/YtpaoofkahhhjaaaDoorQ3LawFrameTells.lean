/- The law FrameTells: for every input the call returns true, and each argument reads behind it as it read before. No condition. (The walk of the Go text, joined with the plain law.) -/
import Derived.Test.YtpaoofkahhhjaaaDoorRows
import Derived.Test.YtpaoofkahhhjaaaDoorQ3Allx20
import Derived.Test.YtpaoofkahhhjaaaDoorQ3PureFrameTells
import Derived.Test.YtpaoofkahhhjaaaDoorCards
import Derived.Test.YtpaoofkahhhjaaaDoorTie
import Derived.Test.YtpaoofkahhhjaaaDoorQ3Glob
import Derived.LaidMore
import Derived.SevenTiedAt
import Derived.Stop.Joined
import Derived.WalkKit
import Derived.ProofKit
import Derived.OpenShut
import Derived.ShutString
import Derived.ChangeOld
import Derived.Below
import Derived.SizedLaws
import Derived.Test.YtpaoofkahhhjaaaDoorQ3WSized
namespace Go.Proofs.YtpaoofkahhhjaaaDoor.frameTells
open Go.ChangeShapes Go.WideShapes Go.ChangeAt Go.RowKit
open Go.ChangeMaps (open_string shut_string)
set_option linter.unusedVariables false
theorem own : ownKnob Tryd.prog.godebug = none := by kernel_rfl
theorem laidOut : laidOutB Tryd.prog = true := by kernel_rfl
def IsRow (k : IntKind) (w : World) (a : Option Addr) (len cap : Nat) (zs : List Int) : Prop :=
  (a = none ∧ len = 0 ∧ cap = 0 ∧ zs = []) ∨
  ∃ x, a = some x ∧ len ≤ cap ∧ cap ≤ maxLen ∧ zs.length = cap ∧ (∀ i, i < zs.length → w.cell? (x.add i) = some (.int k (zs.getD i 0))) ∧ ∀ n ∈ zs, (Lit.int k n).wf = true
set_option linter.unusedSimpArgs false in
theorem opens23 {H : Type} {enc : TypeId × Value → H} {w : World} {base : Nat} {spare : Nat → Bool} {held : Bool} {fuel : Nat} {cs : List Value} {x : DataW H × List MemPlace} (h : DataW.trod enc Tryd.prog w base spare held fuel 23 cs = some x) :
    ∃ (a0 : Int) (a1 : Int), cs = [.int .i64 a0, .int .i64 a1] ∧ (Lit.int .i64 a0).wf = true ∧ (Lit.int .i64 a1).wf = true := by
  obtain ⟨xs, n, _, _, hl, hlen, hg⟩ := DataW.trod_struct Tryd.underlying23 h
  have hl' : cs.length = 2 := hl.trans (by kernel_rfl)
  match cs, hl', xs, hlen with
  | [c0, c1], _, [y0, y1], _ =>
    have g0 : DataW.trod enc Tryd.prog w base spare held n 3 (([c0, c1].drop 0).take (Tryd.prog.cellsOf 3)) = some y0 := hg 0 _ rfl
    have e0 : Tryd.prog.cellsOf 3 = 1 := by kernel_rfl
    rw [e0] at g0
    replace g0 : DataW.trod enc Tryd.prog w base spare held n 3 [c0] = some y0 := g0
    have g1 : DataW.trod enc Tryd.prog w base spare held n 3 (([c0, c1].drop 1).take (Tryd.prog.cellsOf 3)) = some y1 := hg 1 _ rfl
    have e1 : Tryd.prog.cellsOf 3 = 1 := by kernel_rfl
    rw [e1] at g1
    replace g1 : DataW.trod enc Tryd.prog w base spare held n 3 [c1] = some y1 := g1
    obtain ⟨a0, ha0, _, w0⟩ := DataW.trod_int Tryd.underlying3 g0
    simp only [List.cons.injEq, and_true] at ha0
    obtain rfl := ha0
    obtain ⟨a1, ha1, _, w1⟩ := DataW.trod_int Tryd.underlying3 g1
    simp only [List.cons.injEq, and_true] at ha1
    obtain rfl := ha1
    exact ⟨a0, a1, rfl, w0, w1⟩
set_option linter.unusedSimpArgs false in
theorem opens25 {H : Type} {enc : TypeId × Value → H} {w : World} {base : Nat} {spare : Nat → Bool} {held : Bool} {fuel : Nat} {cs : List Value} {x : DataW H × List MemPlace} (h : DataW.trod enc Tryd.prog w base spare held fuel 25 cs = some x) :
    ∃ (a0 : Int) (a1 : Int), cs = [.int .i64 a0, .int .i64 a1] ∧ (Lit.int .i64 a0).wf = true ∧ (Lit.int .i64 a1).wf = true := by
  obtain ⟨xs, n, _, _, hl, hlen, hg⟩ := DataW.trod_struct Tryd.underlying25 h
  have hl' : cs.length = 2 := hl.trans (by kernel_rfl)
  match cs, hl', xs, hlen with
  | [c0, c1], _, [y0, y1], _ =>
    have g0 : DataW.trod enc Tryd.prog w base spare held n 3 (([c0, c1].drop 0).take (Tryd.prog.cellsOf 3)) = some y0 := hg 0 _ rfl
    have e0 : Tryd.prog.cellsOf 3 = 1 := by kernel_rfl
    rw [e0] at g0
    replace g0 : DataW.trod enc Tryd.prog w base spare held n 3 [c0] = some y0 := g0
    have g1 : DataW.trod enc Tryd.prog w base spare held n 3 (([c0, c1].drop 1).take (Tryd.prog.cellsOf 3)) = some y1 := hg 1 _ rfl
    have e1 : Tryd.prog.cellsOf 3 = 1 := by kernel_rfl
    rw [e1] at g1
    replace g1 : DataW.trod enc Tryd.prog w base spare held n 3 [c1] = some y1 := g1
    obtain ⟨a0, ha0, _, w0⟩ := DataW.trod_int Tryd.underlying3 g0
    simp only [List.cons.injEq, and_true] at ha0
    obtain rfl := ha0
    obtain ⟨a1, ha1, _, w1⟩ := DataW.trod_int Tryd.underlying3 g1
    simp only [List.cons.injEq, and_true] at ha1
    obtain rfl := ha1
    exact ⟨a0, a1, rfl, w0, w1⟩
set_option linter.unusedSimpArgs false in
theorem opens27 {H : Type} {enc : TypeId × Value → H} {w : World} {base : Nat} {spare : Nat → Bool} {held : Bool} {fuel : Nat} {cs : List Value} {x : DataW H × List MemPlace} (h : DataW.trod enc Tryd.prog w base spare held fuel 27 cs = some x) :
    ∃ (a0 : Int) (a1 : Int) (a2 : Int) (a3 : Int) (a4 : Int) (a5 : Int), cs = [.int .i64 a0, .int .i64 a1, .int .i64 a2, .int .i64 a3, .int .i64 a4, .int .i64 a5] ∧ (Lit.int .i64 a0).wf = true ∧ (Lit.int .i64 a1).wf = true ∧ (Lit.int .i64 a2).wf = true ∧ (Lit.int .i64 a3).wf = true ∧ (Lit.int .i64 a4).wf = true ∧ (Lit.int .i64 a5).wf = true := by
  obtain ⟨xs, n, _, _, hl, hlen, hg⟩ := DataW.trod_struct Tryd.underlying27 h
  have hl' : cs.length = 6 := hl.trans (by kernel_rfl)
  match cs, hl', xs, hlen with
  | [c0, c1, c2, c3, c4, c5], _, [y0, y1, y2, y3], _ =>
    have g0 : DataW.trod enc Tryd.prog w base spare held n 23 (([c0, c1, c2, c3, c4, c5].drop 0).take (Tryd.prog.cellsOf 23)) = some y0 := hg 0 _ rfl
    have e0 : Tryd.prog.cellsOf 23 = 2 := by kernel_rfl
    rw [e0] at g0
    replace g0 : DataW.trod enc Tryd.prog w base spare held n 23 [c0, c1] = some y0 := g0
    have g1 : DataW.trod enc Tryd.prog w base spare held n 3 (([c0, c1, c2, c3, c4, c5].drop 2).take (Tryd.prog.cellsOf 3)) = some y1 := hg 1 _ rfl
    have e1 : Tryd.prog.cellsOf 3 = 1 := by kernel_rfl
    rw [e1] at g1
    replace g1 : DataW.trod enc Tryd.prog w base spare held n 3 [c2] = some y1 := g1
    have g2 : DataW.trod enc Tryd.prog w base spare held n 3 (([c0, c1, c2, c3, c4, c5].drop 3).take (Tryd.prog.cellsOf 3)) = some y2 := hg 2 _ rfl
    have e2 : Tryd.prog.cellsOf 3 = 1 := by kernel_rfl
    rw [e2] at g2
    replace g2 : DataW.trod enc Tryd.prog w base spare held n 3 [c3] = some y2 := g2
    have g3 : DataW.trod enc Tryd.prog w base spare held n 25 (([c0, c1, c2, c3, c4, c5].drop 4).take (Tryd.prog.cellsOf 25)) = some y3 := hg 3 _ rfl
    have e3 : Tryd.prog.cellsOf 25 = 2 := by kernel_rfl
    rw [e3] at g3
    replace g3 : DataW.trod enc Tryd.prog w base spare held n 25 [c4, c5] = some y3 := g3
    obtain ⟨a0, a1, ha0, w0, w1⟩ := opens23 g0
    simp only [List.cons.injEq, and_true] at ha0
    obtain ⟨rfl, rfl⟩ := ha0
    obtain ⟨a2, ha1, _, w2⟩ := DataW.trod_int Tryd.underlying3 g1
    simp only [List.cons.injEq, and_true] at ha1
    obtain rfl := ha1
    obtain ⟨a3, ha2, _, w3⟩ := DataW.trod_int Tryd.underlying3 g2
    simp only [List.cons.injEq, and_true] at ha2
    obtain rfl := ha2
    obtain ⟨a4, a5, ha3, w4, w5⟩ := opens25 g3
    simp only [List.cons.injEq, and_true] at ha3
    obtain ⟨rfl, rfl⟩ := ha3
    exact ⟨a0, a1, a2, a3, a4, a5, rfl, w0, w1, w2, w3, w4, w5⟩
set_option linter.unusedSimpArgs false in
theorem opens29 {H : Type} {enc : TypeId × Value → H} {w : World} {base : Nat} {spare : Nat → Bool} {held : Bool} {fuel : Nat} {cs : List Value} {x : DataW H × List MemPlace} (h : DataW.trod enc Tryd.prog w base spare held fuel 29 cs = some x) :
    ∃ (a0 : Int) (a1 : Int) (a2 : Int) (a3 : Int) (a4 : Int) (a5 : Int) (a6 : Int) (a7 : Int) (a8 : Int) (a9 : Int), cs = [.int .i64 a0, .int .i64 a1, .int .i64 a2, .int .i64 a3, .int .i64 a4, .int .i64 a5, .int .i64 a6, .int .i64 a7, .int .i64 a8, .int .i64 a9] ∧ (Lit.int .i64 a0).wf = true ∧ (Lit.int .i64 a1).wf = true ∧ (Lit.int .i64 a2).wf = true ∧ (Lit.int .i64 a3).wf = true ∧ (Lit.int .i64 a4).wf = true ∧ (Lit.int .i64 a5).wf = true ∧ (Lit.int .i64 a6).wf = true ∧ (Lit.int .i64 a7).wf = true ∧ (Lit.int .i64 a8).wf = true ∧ (Lit.int .i64 a9).wf = true := by
  obtain ⟨xs, n, _, _, hl, hlen, hg⟩ := DataW.trod_struct Tryd.underlying29 h
  have hl' : cs.length = 10 := hl.trans (by kernel_rfl)
  match cs, hl', xs, hlen with
  | [c0, c1, c2, c3, c4, c5, c6, c7, c8, c9], _, [y0, y1, y2, y3, y4], _ =>
    have g0 : DataW.trod enc Tryd.prog w base spare held n 3 (([c0, c1, c2, c3, c4, c5, c6, c7, c8, c9].drop 0).take (Tryd.prog.cellsOf 3)) = some y0 := hg 0 _ rfl
    have e0 : Tryd.prog.cellsOf 3 = 1 := by kernel_rfl
    rw [e0] at g0
    replace g0 : DataW.trod enc Tryd.prog w base spare held n 3 [c0] = some y0 := g0
    have g1 : DataW.trod enc Tryd.prog w base spare held n 3 (([c0, c1, c2, c3, c4, c5, c6, c7, c8, c9].drop 1).take (Tryd.prog.cellsOf 3)) = some y1 := hg 1 _ rfl
    have e1 : Tryd.prog.cellsOf 3 = 1 := by kernel_rfl
    rw [e1] at g1
    replace g1 : DataW.trod enc Tryd.prog w base spare held n 3 [c1] = some y1 := g1
    have g2 : DataW.trod enc Tryd.prog w base spare held n 3 (([c0, c1, c2, c3, c4, c5, c6, c7, c8, c9].drop 2).take (Tryd.prog.cellsOf 3)) = some y2 := hg 2 _ rfl
    have e2 : Tryd.prog.cellsOf 3 = 1 := by kernel_rfl
    rw [e2] at g2
    replace g2 : DataW.trod enc Tryd.prog w base spare held n 3 [c2] = some y2 := g2
    have g3 : DataW.trod enc Tryd.prog w base spare held n 3 (([c0, c1, c2, c3, c4, c5, c6, c7, c8, c9].drop 3).take (Tryd.prog.cellsOf 3)) = some y3 := hg 3 _ rfl
    have e3 : Tryd.prog.cellsOf 3 = 1 := by kernel_rfl
    rw [e3] at g3
    replace g3 : DataW.trod enc Tryd.prog w base spare held n 3 [c3] = some y3 := g3
    have g4 : DataW.trod enc Tryd.prog w base spare held n 27 (([c0, c1, c2, c3, c4, c5, c6, c7, c8, c9].drop 4).take (Tryd.prog.cellsOf 27)) = some y4 := hg 4 _ rfl
    have e4 : Tryd.prog.cellsOf 27 = 6 := by kernel_rfl
    rw [e4] at g4
    replace g4 : DataW.trod enc Tryd.prog w base spare held n 27 [c4, c5, c6, c7, c8, c9] = some y4 := g4
    obtain ⟨a0, ha0, _, w0⟩ := DataW.trod_int Tryd.underlying3 g0
    simp only [List.cons.injEq, and_true] at ha0
    obtain rfl := ha0
    obtain ⟨a1, ha1, _, w1⟩ := DataW.trod_int Tryd.underlying3 g1
    simp only [List.cons.injEq, and_true] at ha1
    obtain rfl := ha1
    obtain ⟨a2, ha2, _, w2⟩ := DataW.trod_int Tryd.underlying3 g2
    simp only [List.cons.injEq, and_true] at ha2
    obtain rfl := ha2
    obtain ⟨a3, ha3, _, w3⟩ := DataW.trod_int Tryd.underlying3 g3
    simp only [List.cons.injEq, and_true] at ha3
    obtain rfl := ha3
    obtain ⟨a4, a5, a6, a7, a8, a9, ha4, w4, w5, w6, w7, w8, w9⟩ := opens27 g4
    simp only [List.cons.injEq, and_true] at ha4
    obtain ⟨rfl, rfl, rfl, rfl, rfl, rfl⟩ := ha4
    exact ⟨a0, a1, a2, a3, a4, a5, a6, a7, a8, a9, rfl, w0, w1, w2, w3, w4, w5, w6, w7, w8, w9⟩
set_option maxRecDepth 100000 in
theorem lifted (os : Os) (started : os.Started) (H : Type) (enc : TypeId × Value → H) :
    ReturnsInHanded {} Tryd.checked os 4 .any (fun w args => (Rows.frameTellsSpec.pre enc Tryd.prog Tryd.f4 [] false w args ∧ laidMetH Tryd.prog All.laidV w) ∧ sizedMet enc Tryd.prog Tryd.f4 (OpenSpec.ofChange Rows.frameTellsSpec) false w args) (Rows.frameTellsSpec.post enc Tryd.prog Tryd.f4 false true false false) := by
  refine returnsInHanded_of_change_and (C := Tryd.checked) (X := fun w _ => laidMetH Tryd.prog All.laidV w) (fun _ _ _ hh h => h.of_heap hh) own started (by kernel_rfl) Tryd.func4
    (ChangeSpec.witness_shaped (enc := enc) (C := Tryd.checked) (os := os) (X := fun w _ => laidMetH Tryd.prog All.laidV w) false (World.doorLaid Tryd.prog 400 os) #[.agg #[.int .i64 0, .int .i64 0, .int .i64 0, .int .i64 0, .int .i64 0, .int .i64 0, .int .i64 0, .int .i64 0, .int .i64 0, .int .i64 0], .slice none 0 0] 8 rfl (World.shaped_of_RefB (by kernel_rfl) (by kernel_rfl)) (by kernel_rfl) (by kernel_rfl) (by kernel_rfl) (All.door_met os _)) ?_
  intro W base args ds gs before hval0 hW hcnd hsz0 hL0 _
  have hG := All.glob_of_laid hL0
  have hsz : (DataW.weightsEach Tryd.prog (Tryd.f4.params.toList ++ Rows.frameTellsSpec.plain.varTypes Tryd.prog) (ds ++ gs)).all (· ≤ reachBytes) = true := hsz0
  have hval : ∀ (j : Nat) t v, Tryd.f4.params[j]? = some t → args[j]? = some v → Value.okWide Tryd.prog W .any base t v := hval0
  have hW' := hW
  obtain ⟨p, q, hA0, hV, rfl, hfz, hnd⟩ := hW
  have hA : DataW.TrodAll enc Tryd.prog W 0 (fun _ => true) true Tryd.f4.params.toList args.toList ds p := hA0
  rw [Tryd.params4] at hA hval hsz
  obtain ⟨v0, vs0, d0, ds0, p0, q0, hargs, rfl, rfl, h0, r0⟩ := trodAll_cons hA
  obtain ⟨v1, vs1, d1, ds1, p1, q1, rfl, rfl, rfl, h1, r1⟩ := trodAll_cons r0
  obtain ⟨rfl, rfl, rfl⟩ := trodAll_nil r1
  obtain rfl : args = #[v0, v1] := by cases args; simp_all
  obtain ⟨rfl, rfl⟩ := trodVars_none hV
  obtain ⟨cs0, rfl, hs0⟩ := okWide_struct Tryd.underlying29 (hval 0 29 v0 rfl rfl)
  have k0 := h0
  have lt0 : ∀ x ∈ p0, x.block < W.heap.size := by obtain ⟨m, hm⟩ := k0; exact DataW.trod_lt m _ _ _ hm
  obtain ⟨a0_0, a0_1, a0_2, a0_3, a0_4, a0_5, a0_6, a0_7, a0_8, a0_9, hl0, w0_0, w0_1, w0_2, w0_3, w0_4, w0_5, w0_6, w0_7, w0_8, w0_9⟩ := opens29 (show DataW.trod enc Tryd.prog W 0 (fun _ => true) true h0.choose 29 cs0.toList = some (d0, p0) from h0.choose_spec)
  obtain rfl : cs0 = #[.int .i64 a0_0, .int .i64 a0_1, .int .i64 a0_2, .int .i64 a0_3, .int .i64 a0_4, .int .i64 a0_5, .int .i64 a0_6, .int .i64 a0_7, .int .i64 a0_8, .int .i64 a0_9] := by cases cs0; simp_all
  obtain ⟨a1, len1, cap1, rfl⟩ := okWide_slice Tryd.underlying31 (hval 1 31 v1 rfl rfl)
  have k1 := h1
  have lt1 : ∀ x ∈ p1, x.block < W.heap.size := by obtain ⟨m, hm⟩ := k1; exact DataW.trod_lt m _ _ _ hm
  obtain ⟨z1, w1⟩ : ∃ zs, IsRow .u8 W a1 len1 cap1 zs := by
    obtain ⟨fuel, hf⟩ := h1
    rcases open_ints Tryd.underlying31 Tryd.underlying5 (by kernel_rfl) hf with ⟨hcs, _⟩ | ⟨x, l, c, zs, hcs, _, hl, hm, hz, _, hcell, hwz⟩
    · simp [Value.cells] at hcs
      obtain ⟨rfl, rfl, rfl⟩ := hcs
      exact ⟨[], .inl ⟨rfl, rfl, rfl, rfl⟩⟩
    · simp [Value.cells] at hcs
      obtain ⟨rfl, rfl, rfl⟩ := hcs
      exact ⟨zs, .inr ⟨_, rfl, hl, hm, by simpa using hz, hcell, hwz⟩⟩
  have y1 : len1 * 1 ≤ 140737488351232 := Go.Proofs.YtpaoofkahhhjaaaDoorW.PrintWords.sized_ints hsz (j := 1) (t := 31) rfl rfl Tryd.underlying31 Tryd.underlying5 (by kernel_rfl) (by kernel_rfl) h1
  clear hA0 hval0 hsz0 hsz
  refine (All.wayfinderlaw06_FrameTells.walk Pure.FrameTells a0_0 a0_1 a0_2 a0_3 a0_4 a0_5 a0_6 a0_7 a0_8 a0_9 a1 len1 cap1 z1 W hG w0_0 w0_1 w0_2 w0_3 w0_4 w0_5 w0_6 w0_7 w0_8 w0_9 w1 y1).mono fun e W' ⟨he, bel⟩ => ?_
  subst he
  exact ⟨_, rfl, _, _, _, [], _, [], hW', trodAll_mk1 (shut_bool Tryd.underlying4 _), (trodAll_cons_mk (Below.trod laidOut (by kernel_rfl) (of_decide_eq_true (by kernel_rfl)) k0 bel lt0) (trodAll_cons_mk (Below.trod laidOut (by kernel_rfl) (of_decide_eq_true (by kernel_rfl)) k1 bel lt1) trodAll_mk0)), rfl, bel.frame _, fun h => by cases h⟩
theorem over : Rows.frameTellsRow.holds Tryd.pinned (OpenSpec.ofChange Rows.frameTellsSpec) :=
  OpenClaim.holds_of_wide 4 Tryd.f4 rfl rfl rfl rfl rfl rfl rfl ⟨rfl, rfl, rfl, rfl, rfl⟩ rfl rfl rfl rfl rfl (by kernel_rfl) Tryd.func4 (by kernel_rfl)
    (of_decide_eq_true (by kernel_rfl)) (by unfold Func.isWrapper; first | (rw [if_pos (by decide +kernel)]; kernel_rfl) | (rw [if_neg (by decide +kernel)]; exact ⟨rfl, rfl⟩))
    (fun os started H enc _ => lifted os started H enc)
theorem proved : Rows.FrameTellsCardSaid :=
  Claim7.holds_tied_plain_at .later [] [.data] true (true, "e0a697f3f95e3b1bea23c0079388b2b1bfbe4ed4c5c11a06a7bb7284a26b0a01") false
    over (fun _ h => by cases h) (by kernel_rfl) (fun _ h => by cases h) frameTells_row_tie rfl ⟨rfl, rfl⟩ (by kernel_rfl) rfl
    (fun f fn hf hfn => by
      obtain rfl : f = 4 := Option.some.inj ((show Tryd.prog.funcNamed "wayfinder/wayfinderlaw06.FrameTells" = some 4 by kernel_rfl).symm.trans hf) |>.symm
      obtain rfl : fn = Tryd.f4 := (Option.some.inj (Tryd.func4.symm.trans hfn)).symm
      exact ⟨by kernel_rfl, fun j t ht => by
        rw [Tryd.params4] at ht
        have hm : t ∈ [29, 31] := by simpa using Array.mem_of_getElem? ht
        have hall : ([29, 31].all fun u => !Tryd.prog.wantsStandIn u) = true := by kernel_rfl
        exact (show Tryd.prog.wantsStandIn t = false by simpa using List.all_eq_true.1 hall t hm)⟩)
    (by kernel_rfl)
#print axioms proved
end Go.Proofs.YtpaoofkahhhjaaaDoor.frameTells
namespace Go.Proofs.YtpaoofkahhhjaaaDoor
theorem frameTells_holds : Rows.FrameTellsCardSaid := frameTells.proved
end Go.Proofs.YtpaoofkahhhjaaaDoor
