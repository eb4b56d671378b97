/- The law FrameSame, walked by hand: what is opened is sealed as the same bytes. Conditions: the cells of the listed variable (Glob); the bytes are bytes. -/
import Derived.Test.YtpaoofkahhhjaaaDoorQ5Allx3
import Derived.Test.YtpaoofkahhhjaaaDoorQ5Allx6
import Derived.Test.YtpaoofkahhhjaaaDoorQ5Allx7
import Derived.Test.YtpaoofkahhhjaaaDoorQ5Allx8
import Derived.Test.YtpaoofkahhhjaaaDoorQ5Allx16
import Derived.Test.YtpaoofkahhhjaaaDoorQ5MathM
import Derived.Test.YtpaoofkahhhjaaaDoorQ5MathN
import Derived.Test.YtpaoofkahhhjaaaDoorQ5MathQ
import Derived.Test.YtpaoofkahhhjaaaDoorQ5MathR
namespace Go.Proofs.YtpaoofkahhhjaaaDoor.All
open Go.RowKit Go.Proofs.YtpaoofkahhhjaaaDoorW.PrintWords Go.Proofs.YtpaoofkahhhjaaaDoorW.PrintLast Go.Proofs.YtpaoofkahhhjaaaDoorW.PrintMore
open BM OB
attribute [local go_sem] max2_int min2_int max_two min_two max_three min_three max_four min_four
set_option linter.unusedVariables false
set_option linter.unusedSimpArgs false
attribute [local go_sem high] eqA29
section
variable {P : Program} {ops : Array Oper} {C : World → Prop} {Q : Act → Prop} {a : Act} {o : Oper} {rest : List Oper} {K : Act → Prop}
theorem q_start {id : Nat} {Q : Exit → Act → World → Prop} {w : World} {l : List Oper} (C : World → Prop) (hm : P.follows .mixedOrders = true) (hB : Region.lexB .any l.toArray = true) (hC : C w.drew)
    (h : wpQuiet P l.toArray C (fun a' => ∀ w', C w' → Q .normal a' w') l a) : (Code.region id l.toArray true).wp P Q a w :=
  wp_region_quiet (C := C) hm hB hC (by simpa using h)
theorem q_want (hw : Region.wanted o (yielded ops a.tmps) = true) (h : o.quiet P a C (wpQuiet P ops C Q rest)) : wpQuiet P ops C Q (o :: rest) a := by
  unfold wpQuiet
  rw [if_pos hw]
  exact h
theorem q_skip (hw : Region.wanted o (yielded ops a.tmps) = false) (h : wpQuiet P ops C Q rest (a.put o.dst undef)) : wpQuiet P ops C Q (o :: rest) a := by
  unfold wpQuiet
  rw [if_neg (by rw [hw]; exact Bool.false_ne_true)]
  exact h
theorem q_val {v : Value} (hrun : ∀ w, C w → (execOp a.eval o).run P w = .ok (.value v) w) (hk : K (a.put o.dst v)) : o.quiet P a C K :=
  ⟨v, fun w hw => by unfold Oper.quietAt; rw [hrun w hw]; exact ⟨rfl, rfl⟩, hk⟩
theorem q_call {v : Value} {f : FuncId} {args : Array Value} (hrun : ∀ w, C w → (execOp a.eval o).run P w = .ok (.enter f args) w)
    (hcall : ∀ w, C w → Calls P f args w fun e w' => e = .returned v ∧ C w') (hk : K (a.put o.dst v)) : o.quiet P a C K :=
  ⟨v, fun w hw => by unfold Oper.quietAt; rw [hrun w hw]; exact ⟨rfl, hcall w hw⟩, hk⟩
structure WQ (P : Program) (ops : Array Oper) (C : World → Prop) (Q : Act → Prop) (l : List Oper) (a : Act) : Prop where
  out : wpQuiet P ops C Q l a
theorem w_start {id : Nat} {Q : Exit → Act → World → Prop} {w : World} {l : List Oper} (C : World → Prop) (hm : P.follows .mixedOrders = true) (hB : Region.lexB .any l.toArray = true) (hC : C w.drew)
    (h : WQ P l.toArray C (fun a' => ∀ w', C w' → Q .normal a' w') l a) : (Code.region id l.toArray true).wp P Q a w := q_start C hm hB hC h.out
theorem w_val {v : Value} (hw : Region.wanted o (yielded ops a.tmps) = true) (hrun : ∀ w, C w → (execOp a.eval o).run P w = .ok (.value v) w) (hk : WQ P ops C Q rest (a.put o.dst v)) : WQ P ops C Q (o :: rest) a := ⟨q_want hw (q_val hrun hk.out)⟩
theorem w_call {v : Value} {f : FuncId} {args : Array Value} (hw : Region.wanted o (yielded ops a.tmps) = true) (hrun : ∀ w, C w → (execOp a.eval o).run P w = .ok (.enter f args) w)
    (hcall : ∀ w, C w → Calls P f args w fun e w' => e = .returned v ∧ C w') (hk : WQ P ops C Q rest (a.put o.dst v)) : WQ P ops C Q (o :: rest) a := ⟨q_want hw (q_call hrun hcall hk.out)⟩
theorem w_skip (hw : Region.wanted o (yielded ops a.tmps) = false) (hk : WQ P ops C Q rest (a.put o.dst undef)) : WQ P ops C Q (o :: rest) a := ⟨q_skip hw hk.out⟩
theorem w_nil (h : Q a) : WQ P ops C Q [] a := ⟨wpQuiet_nil h⟩
end
theorem f_awake6 (k : Nat) (hk : 200 ≤ k) : wayfinderlaw06_awake.f k = some true := by
  unfold wayfinderlaw06_awake.f
  rw [f_Seal k (by omega)]
  have hr : isMsg 0 3 0 0 0 0 0 0 0 0 := by decide +kernel
  have hbts : frmBytes (msgBytes 0 3 0 0 0 0 0 0 0 0) = [197, 9, 0, 0, 0, 3, 0, 0, 0, 0, 0, 0, 58, 243] := by decide +kernel
  simp only [sealR, if_pos hr, Option.bind_some, if_true, hbts, Lib.strOfNums_toList]
  decide
theorem same_parts (b : List Int) (hb : Bys b) (h : (oGetR b).2.2.2.2.2.2.2.2.2.2 = 0) :
    4 ≤ b.length ∧ isMsg (oGetR b).1 (oGetR b).2.1 (oGetR b).2.2.1 (oGetR b).2.2.2.1 (oGetR b).2.2.2.2.1 (oGetR b).2.2.2.2.2.1 (oGetR b).2.2.2.2.2.2.1 (oGetR b).2.2.2.2.2.2.2.1 (oGetR b).2.2.2.2.2.2.2.2.1 (oGetR b).2.2.2.2.2.2.2.2.2.1 ∧
    frmBody (msgBytes (oGetR b).1 (oGetR b).2.1 (oGetR b).2.2.1 (oGetR b).2.2.2.1 (oGetR b).2.2.2.2.1 (oGetR b).2.2.2.2.2.1 (oGetR b).2.2.2.2.2.2.1 (oGetR b).2.2.2.2.2.2.2.1 (oGetR b).2.2.2.2.2.2.2.2.1 (oGetR b).2.2.2.2.2.2.2.2.2.1) = b.take (b.length - 2) ∧ OM.ck b = 0 := by
  obtain ⟨h4, h0, hlen, hck, hpad, he⟩ := oGet_ok b h
  have hN := hb.get 1
  obtain ⟨N, hn⟩ := Int.eq_ofNat_of_zero_le hN.1
  rw [hn] at hlen hpad he
  rw [he] at h ⊢
  obtain ⟨m1, m2⟩ := mPut_get _ ((hb.take _).drop _) h
  refine ⟨h4, m1, ?_, hck⟩
  rw [m2]
  exact body_of b hb N h0 hn (by omega) (fun hp => hpad (by omega))
theorem same_all (b : List Int) (hb : Bys b) (hl : b.length ≤ 3000) : ∃ p0 p1 p2 p3 p4 p5 p6 p7 p8 p9 t : Int,
    frame_Open.f 5000 b = some (p0, p1, p2, p3, p4, p5, p6, p7, p8, p9, t) ∧
    ((t ≠ 0 ∧ p0 = 0 ∧ p1 = 0 ∧ p2 = 0 ∧ p3 = 0 ∧ p4 = 0 ∧ p5 = 0 ∧ p6 = 0 ∧ p7 = 0 ∧ p8 = 0 ∧ p9 = 0) ∨
     (t = 0 ∧ ∃ (F : List Int) (m : Nat), frame_Seal.f 5000 p0 p1 p2 p3 p4 p5 p6 p7 p8 p9 = some (F, 0) ∧ msg_May.f p0 p1 p2 p3 p4 p5 p6 p7 p8 p9 = some true ∧ b.length = m + 2 ∧ 2 ≤ m ∧ F.length = m + 2 ∧ F.take m = b.take m ∧
      (((strOfNums F).toList == (strOfNums b).toList) = true ∨ (((strOfNums F).toList == (strOfNums b).toList) = false ∧ rd b (m : Int) = 255 ∧ rd b ((m + 1 : Nat) : Int) = 255)))) := by
  have hO := f_Open 5000 (by omega) b hb (by omega)
  have hp := same_parts b hb
  have hz := oGet_bad b
  generalize oGetR b = r at hO hp hz
  obtain ⟨p0, p1, p2, p3, p4, p5, p6, p7, p8, p9, t⟩ := r
  simp only at hp hz
  refine ⟨p0, p1, p2, p3, p4, p5, p6, p7, p8, p9, t, hO, ?_⟩
  clear hO
  by_cases ho : t = 0
  · refine Or.inr ⟨ho, ?_⟩
    obtain ⟨h4, hm, hbody, hck⟩ := hp ho
    obtain ⟨m, hmm⟩ : ∃ m, b.length = m + 2 := ⟨b.length - 2, by omega⟩
    rw [f_Seal _ (by omega), f_MMay]
    unfold sealR
    rw [if_pos hm, decide_eq_true hm]
    refine ⟨_, m, rfl, rfl, hmm, by omega, ?_⟩
    generalize msgBytes p0 p1 p2 p3 p4 p5 p6 p7 p8 p9 = B at hbody
    have hev := frm_even B
    have e2 : b.length - 2 = m := by omega
    have e1 : b.length - 1 = m + 1 := by omega
    have hs := snoc_two b (by omega)
    rw [e2, e1] at hs
    rw [e2] at hbody
    have htl : (b.take m).length = m := by rw [List.length_take]; omega
    refine ⟨?_, ?_, ?_⟩
    · unfold frmBytes
      rw [List.length_append, hbody, htl]
      rfl
    · unfold frmBytes
      rw [hbody]
      exact List.take_left' htl
    · have hx := hb.get (m : Int)
      have hy := hb.get ((m + 1 : Nat) : Int)
      have hck2 := hck
      rw [hs] at hck2
      rw [hbody] at hev
      rcases ck_tail _ (hb.take _) hev _ _ hx hy hck2 with ⟨e1, e2⟩ | ⟨e1, e2⟩
      · have e : frmBytes B = b := by
          unfold frmBytes
          rw [hbody, ← e1, ← e2]
          exact hs.symm
        exact Or.inl (by rw [e]; exact beq_self_eq_true _)
      · by_cases he : (strOfNums (frmBytes B)).toList = (strOfNums b).toList
        · exact Or.inl (beq_iff_eq.2 he)
        · exact Or.inr ⟨beq_eq_false_iff_ne.2 he, e1, e2⟩
  · exact Or.inl ⟨ho, hz ho⟩
theorem cell_c {w : World} {g : Nat} {cs : Array Value} {t : TypeId} (h : w.heap[g]? = some (.cells cs t (0, 0))) (i : Nat) : w.cell? ⟨g, i, none⟩ = cs[i]? := by simp [World.cell?, h]
set_option maxHeartbeats 8000000 in
set_option maxRecDepth 100000 in
theorem frameSame_calls (A0 : Option Addr) (c0 : Nat) (l0 : List Int) (w : World) (hr0 : Kd.C (Kd.int .u8) w A0 l0.length l0) (hc0 : l0.length ≤ c0) (hG : Glob w) (hb : Bys l0) :
    Calls Tryd.prog 7 #[.slice A0 l0.length c0] w fun e w' => e = .returned (.bool true) ∧ Below w.heap.size w w' := by
  have hA := fun W (h : Glob W) => wayfinderlaw06_awake.calls 5000 true W h (f_awake6 5000 (by omega))
  have HA := Aside0.mk hA
  clear hA
  by_cases h3 : (l0.length : Int) > 3000
  · have b3 : decide ((3000 : Int) < (l0.length : Int)) = true := decide_eq_true h3
    clear h3 hb hr0
    go_enter Tryd.func7, Tryd.ntmps7
    go_wp2_with (first | (go_at_call 9; refine (HA.out _ hG).mono ?_; rintro e w1 ⟨rfl, hb1⟩))
    go_ret
    exact ⟨rfl, hb1⟩
  · have b3 : decide ((3000 : Int) < (l0.length : Int)) = false := decide_eq_false h3
    obtain ⟨p0, p1, p2, p3, p4, p5, p6, p7, p8, p9, t, hO, hcase⟩ := same_all l0 hb (by omega)
    clear hb
    have HO := Aside0.mk hO
    have HR := Aside0.mk hr0
    have HC := Aside0.mk hc0
    clear hO hr0 hc0
    rcases hcase with ⟨ht, rfl, rfl, rfl, rfl, rfl, rfl, rfl, rfl, rfl, rfl⟩ | ⟨rfl, F, m, hS, hM, hlen, h2, hF, htk, hs⟩
    · have t1 : (t != 0) = true := bne_iff_ne.2 ht
      clear h3 ht
      go_enter Tryd.func7, Tryd.ntmps7
      go_wp2_with (first
        | (go_at_call 9; refine (HA.out _ hG).mono ?_; rintro e w1 ⟨rfl, hb1⟩; have HB1 := Aside0.mk hb1; clear hb1)
        | (go_at_call 12; refine (frame_Open.calls _ _ _ _ _ _ _ _ _ _ _ _ _ _ _ _ (Kd.C_below HR.out HB1.out) HC.out (hG.below rfl HB1.out) HO.out).mono ?_; rintro e w2 ⟨rfl, hb2⟩; have HB2 := Aside0.mk (below_step HB1.out hb2); clear hb2))
      go_ret
      exact ⟨rfl, HB2.out.alloc HB2.out.size _⟩
    · have hlen4 : 4 ≤ l0.length := by omega
      have hw2 : IntKind.i64.wrap ((l0.length : Int) - 2) = (m : Int) := (IntWalk.i64_in ((l0.length : Int) - 2) (by omega)).trans (by omega)
      obtain ⟨m1, hm1⟩ : ∃ k, k = m + 1 := ⟨_, rfl⟩
      have hw1 : IntKind.i64.wrap ((l0.length : Int) - 1) = (m1 : Int) := (IntWalk.i64_in ((l0.length : Int) - 1) (by omega)).trans (by omega)
      rw [← hm1] at hs
      have hFl : F.length = l0.length := by omega
      have hml : m ≤ l0.length := by omega
      have b4 : decide (4 ≤ (l0.length : Int)) = true := decide_eq_true (by omega)
      have b5 : decide (4 ≤ l0.length) = true := decide_eq_true hlen4
      obtain ⟨ad, rfl, r0⟩ := Kd.at_int HR.out (m : Int) (by omega) (by omega)
      obtain ⟨ad', hae, r1⟩ := Kd.at_int HR.out (m1 : Int) (by omega) (by omega)
      obtain rfl := Option.some.inj hae
      rw [Int.toNat_natCast] at r0 r1
      obtain ⟨i5, hi5, _, hsz5, _⟩ := info_parts info5
      have hcb : ∀ W, (Instr.slice 31 (.slice (some ad) l0.length c0) none (some (.int .i64 (m : Int))) none).run Tryd.prog W = .ok (.slice (some ad) m c0) W := by
        have h := cut_to (P := Tryd.prog) 31 5 .i64 Tryd.underlying31 hi5 (some ad) l0.length c0 (m : Int) (by omega) (by omega) HC.out
        rw [Int.toNat_natCast] at h
        exact h
      have HI5 := Aside0.mk hi5
      have hml0 : decide ((m : Int) < (l0.length : Int)) = true := decide_eq_true (by omega)
      have hml1 : decide ((m1 : Int) < (l0.length : Int)) = true := decide_eq_true (by omega)
      have hml2 : decide (m < l0.length) = true := decide_eq_true (by omega)
      have hml3 : decide (m1 < l0.length) = true := decide_eq_true (by omega)
      have hml4 := eq_true (show (m : Int) < (l0.length : Int) by omega)
      have hml5 := eq_true (show (m1 : Int) < (l0.length : Int) by omega)
      have hml6 := eq_true (show m < l0.length by omega)
      have hml7 := eq_true (show m1 < l0.length by omega)
      have HX := Aside0.mk (And.intro hFl (And.intro hml htk))
      have HS := Aside0.mk hS
      have HM := Aside0.mk hM
      have HRR := Aside0.mk (And.intro r0 r1)
      have HSS := Aside0.mk hs
      clear hS hM hlen h2 hF htk hs hm1 hFl hml hae r0 r1 h3 hlen4 hsz5 hi5
      go_enter Tryd.func7, Tryd.ntmps7
      go_wp2_with (first
        | (go_at_call 9; refine (HA.out _ hG).mono ?_; rintro e w1 ⟨rfl, hb1⟩; have HB1 := Aside0.mk hb1; clear hb1)
        | (go_at_call 12; refine (frame_Open.calls _ _ _ _ _ _ _ _ _ _ _ _ _ _ _ _ (Kd.C_below HR.out HB1.out) HC.out (hG.below rfl HB1.out) HO.out).mono ?_; rintro e w2 ⟨rfl, hb2⟩; have HB2 := Aside0.mk (below_step HB1.out hb2); clear hb2)
        | (go_at_call 10; refine (frame_Seal.calls _ _ _ _ _ _ _ _ _ _ _ _ _ _ (hG.below rfl (HB2.out.alloc HB2.out.size _)) HS.out).mono ?_; rintro e w3 ⟨v3, rfl, hr3, hb3⟩; have HR3 := Aside0.mk hr3; have HB3 := Aside0.mk hb3; clear hr3 hb3))
      obtain ⟨Ac, cc, rfl⟩ := Kd.R_slice HR3.out
      have hk3 := (Kd.R_reads' HR3.out).2.2
      have hcc := (Kd.R_reads' HR3.out).2.1
      rw [HX.out.1] at hcc
      have hca : ∀ W, (Instr.slice 31 (.slice Ac l0.length cc) none (some (.int .i64 (m : Int))) none).run Tryd.prog W = .ok (.slice Ac m cc) W := by
        have h := cut_to (P := Tryd.prog) 31 5 .i64 Tryd.underlying31 HI5.out Ac l0.length cc (m : Int) (by omega) (by have := HX.out.2.1; omega) hcc
        rw [Int.toNat_natCast] at h
        exact h
      have hnew := heap_alloc_new w2 (Obj.cells #[.int .i64 p0, .int .i64 p1, .int .i64 p2, .int .i64 p3, .int .i64 p4, .int .i64 p5, .int .i64 p6, .int .i64 p7, .int .i64 p8, .int .i64 p9] 29)
      have hbb : Below w.heap.size w w3 := below_step (HB2.out.alloc HB2.out.size _) HB3.out
      have x0 : w3.cell? ⟨w2.heap.size, 0, none⟩ = some (.int .i64 p0) := pw_cell_below HB3.out (cell_c hnew 0)
      have x1 : w3.cell? ⟨w2.heap.size, 1, none⟩ = some (.int .i64 p1) := pw_cell_below HB3.out (cell_c hnew 1)
      have x2 : w3.cell? ⟨w2.heap.size, 2, none⟩ = some (.int .i64 p2) := pw_cell_below HB3.out (cell_c hnew 2)
      have x3 : w3.cell? ⟨w2.heap.size, 3, none⟩ = some (.int .i64 p3) := pw_cell_below HB3.out (cell_c hnew 3)
      have x4 : w3.cell? ⟨w2.heap.size, 4, none⟩ = some (.int .i64 p4) := pw_cell_below HB3.out (cell_c hnew 4)
      have x5 : w3.cell? ⟨w2.heap.size, 5, none⟩ = some (.int .i64 p5) := pw_cell_below HB3.out (cell_c hnew 5)
      have x6 : w3.cell? ⟨w2.heap.size, 6, none⟩ = some (.int .i64 p6) := pw_cell_below HB3.out (cell_c hnew 6)
      have x7 : w3.cell? ⟨w2.heap.size, 7, none⟩ = some (.int .i64 p7) := pw_cell_below HB3.out (cell_c hnew 7)
      have x8 : w3.cell? ⟨w2.heap.size, 8, none⟩ = some (.int .i64 p8) := pw_cell_below HB3.out (cell_c hnew 8)
      have x9 : w3.cell? ⟨w2.heap.size, 9, none⟩ = some (.int .i64 p9) := pw_cell_below HB3.out (cell_c hnew 9)
      have hkb := Kd.C_below HR.out hbb
      have y0 := pw_cell_below hbb HRR.out.1
      have y1 := pw_cell_below hbb HRR.out.2
      rw [HX.out.1]
      generalize w2.heap.size = g at x0 x1 x2 x3 x4 x5 x6 x7 x8 x9 ⊢
      have HQ := Aside0.mk (And.intro hbb (And.intro (hG.below rfl hbb) (And.intro hk3 hkb)))
      have HXX := Aside0.mk (And.intro x0 (And.intro x1 (And.intro x2 (And.intro x3 (And.intro x4 (And.intro x5 (And.intro x6 (And.intro x7 (And.intro x8 x9)))))))))
      have HY := Aside0.mk (And.intro y0 y1)
      have hstr : ∀ w', Below w3.heap.size w3 w' → (convert 31 9 (.slice Ac l0.length cc)).run Tryd.prog w' = .ok (.string (strOfNums F)) w' ∧ (convert 31 9 (.slice (some ad) l0.length c0)).run Tryd.prog w' = .ok (.string (strOfNums l0)) w' ∧
          (convert 31 9 (.slice Ac m cc)).run Tryd.prog w' = .ok (.string (strOfNums (l0.take m))) w' ∧ (convert 31 9 (.slice (some ad) m c0)).run Tryd.prog w' = .ok (.string (strOfNums (l0.take m))) w' := by
        intro w' h'
        have e1 := Kd.C_below HQ.out.2.2.1 h'
        have e2 := Kd.C_below HQ.out.2.2.2 h'
        have e3 := Kd.C_take (m := m) e1 (by rw [HX.out.1]; exact HX.out.2.1)
        have e4 := Kd.C_take (m := m) e2 HX.out.2.1
        have htl : (l0.take m).length = m := List.length_take_of_le HX.out.2.1
        rw [HX.out.2.2, htl] at e3
        rw [htl] at e4
        rw [HX.out.1] at e1
        exact ⟨Kd.C_string Tryd.underlying31 Tryd.underlying5 Tryd.underlying9 e1, Kd.C_string Tryd.underlying31 Tryd.underlying5 Tryd.underlying9 e2, Kd.C_string Tryd.underlying31 Tryd.underlying5 Tryd.underlying9 e3, Kd.C_string Tryd.underlying31 Tryd.underlying5 Tryd.underlying9 e4⟩
      have HST := Aside0.mk hstr
      clear hstr hbb hk3 hcc hnew x0 x1 x2 x3 x4 x5 x6 x7 x8 x9 hkb y0 y1 HR3 HB3 HB1 HB2
      rcases HSS.out with hs | ⟨hs, z0, z1⟩
      · refine w_start (fun w' => Below w3.heap.size w3 w') (by kernel_rfl) (by kernel_rfl) (Below.refl _ _).drew ?_
        refine w_val (v := ?_) rfl ?_ ?_
        rotate_left
        · intro w' hw'; go_simp; with_reducible rfl
        simp only [Act.put, List.setIfInBounds_toArray, List.set_cons_zero, List.set_cons_succ]
        refine w_val (v := ?_) rfl ?_ ?_
        rotate_left
        · intro w' hw'; go_simp; with_reducible rfl
        simp only [Act.put, List.setIfInBounds_toArray, List.set_cons_zero, List.set_cons_succ]
        refine w_val (v := ?_) rfl ?_ ?_
        rotate_left
        · intro w' hw'; go_simp; with_reducible rfl
        simp only [Act.put, List.setIfInBounds_toArray, List.set_cons_zero, List.set_cons_succ]
        refine w_val (v := ?_) rfl ?_ ?_
        rotate_left
        · intro w' hw'; obtain ⟨x0, x1, x2, x3, x4, x5, x6, x7, x8, x9⟩ := HXX.out; replace x0 := pw_cell_below hw' x0; replace x1 := pw_cell_below hw' x1; replace x2 := pw_cell_below hw' x2; replace x3 := pw_cell_below hw' x3; replace x4 := pw_cell_below hw' x4; replace x5 := pw_cell_below hw' x5; replace x6 := pw_cell_below hw' x6; replace x7 := pw_cell_below hw' x7; replace x8 := pw_cell_below hw' x8; replace x9 := pw_cell_below hw' x9; go_simp; with_reducible rfl
        simp only [Act.put, List.setIfInBounds_toArray, List.set_cons_zero, List.set_cons_succ]
        refine w_call rfl (f := 15) ?_ (fun w' hw' => (msg_May.calls _ _ _ _ _ _ _ _ _ _ _ _ (HQ.out.2.1.below rfl hw') HM.out).mono fun e w5 ⟨he, hb5⟩ => ⟨he, below_step hw' hb5⟩) ?_
        · (intro w' hw'; go_simp; done)
        simp only [Act.put, List.setIfInBounds_toArray, List.set_cons_zero, List.set_cons_succ]
        refine w_val (v := ?_) rfl ?_ ?_
        rotate_left
        · intro w' hw'; go_simp; with_reducible rfl
        simp only [Act.put, List.setIfInBounds_toArray, List.set_cons_zero, List.set_cons_succ]
        refine w_val (v := ?_) rfl ?_ ?_
        rotate_left
        · intro w' hw'; go_simp; with_reducible rfl
        simp only [Act.put, List.setIfInBounds_toArray, List.set_cons_zero, List.set_cons_succ]
        refine w_val (v := ?_) rfl ?_ ?_
        rotate_left
        · intro w' hw'; go_simp; with_reducible rfl
        simp only [Act.put, List.setIfInBounds_toArray, List.set_cons_zero, List.set_cons_succ]
        refine w_val (v := ?_) rfl ?_ ?_
        rotate_left
        · intro w' hw'; go_simp; with_reducible rfl
        simp only [Act.put, List.setIfInBounds_toArray, List.set_cons_zero, List.set_cons_succ]
        refine w_val (v := ?_) rfl ?_ ?_
        rotate_left
        · intro w' hw'; go_simp; with_reducible rfl
        simp only [Act.put, List.setIfInBounds_toArray, List.set_cons_zero, List.set_cons_succ]
        refine w_val (v := ?_) rfl ?_ ?_
        rotate_left
        · intro w' hw'; go_simp; with_reducible rfl
        simp only [Act.put, List.setIfInBounds_toArray, List.set_cons_zero, List.set_cons_succ]
        refine w_val (v := ?_) rfl ?_ ?_
        rotate_left
        · intro w' hw'; go_simp; with_reducible rfl
        simp only [Act.put, List.setIfInBounds_toArray, List.set_cons_zero, List.set_cons_succ]
        refine w_val (v := ?_) rfl ?_ ?_
        rotate_left
        · intro w' hw'; go_simp; with_reducible rfl
        simp only [Act.put, List.setIfInBounds_toArray, List.set_cons_zero, List.set_cons_succ]
        refine w_val (v := ?_) rfl ?_ ?_
        rotate_left
        · intro w' hw'; go_simp; with_reducible rfl
        simp only [Act.put, List.setIfInBounds_toArray, List.set_cons_zero, List.set_cons_succ]
        refine w_val (v := ?_) rfl ?_ ?_
        rotate_left
        · intro w' hw'; go_simp; with_reducible rfl
        simp only [Act.put, List.setIfInBounds_toArray, List.set_cons_zero, List.set_cons_succ]
        refine w_val (v := ?_) rfl ?_ ?_
        rotate_left
        · intro w' hw'; go_simp; with_reducible rfl
        simp only [Act.put, List.setIfInBounds_toArray, List.set_cons_zero, List.set_cons_succ]
        refine w_val (v := ?_) rfl ?_ ?_
        rotate_left
        · intro w' hw'; go_simp; with_reducible rfl
        simp only [Act.put, List.setIfInBounds_toArray, List.set_cons_zero, List.set_cons_succ]
        refine w_val (v := ?_) rfl ?_ ?_
        rotate_left
        · intro w' hw'; go_simp; with_reducible rfl
        simp only [Act.put, List.setIfInBounds_toArray, List.set_cons_zero, List.set_cons_succ]
        refine w_val (v := ?_) rfl ?_ ?_
        rotate_left
        · intro w' hw'; go_simp; with_reducible rfl
        simp only [Act.put, List.setIfInBounds_toArray, List.set_cons_zero, List.set_cons_succ]
        refine w_val (v := ?_) rfl ?_ ?_
        rotate_left
        · intro w' hw'; go_simp; with_reducible rfl
        simp only [Act.put, List.setIfInBounds_toArray, List.set_cons_zero, List.set_cons_succ]
        refine w_val (v := ?_) rfl ?_ ?_
        rotate_left
        · intro w' hw'; go_simp; with_reducible rfl
        simp only [Act.put, List.setIfInBounds_toArray, List.set_cons_zero, List.set_cons_succ]
        refine w_val (v := ?_) rfl ?_ ?_
        rotate_left
        · intro w' hw'; obtain ⟨s1, s2, s3, s4⟩ := HST.out _ hw'; go_simp; with_reducible rfl
        simp only [Act.put, List.setIfInBounds_toArray, List.set_cons_zero, List.set_cons_succ]
        refine w_val (v := ?_) rfl ?_ ?_
        rotate_left
        · intro w' hw'; go_simp; with_reducible rfl
        simp only [Act.put, List.setIfInBounds_toArray, List.set_cons_zero, List.set_cons_succ]
        refine w_val (v := ?_) rfl ?_ ?_
        rotate_left
        · intro w' hw'; go_simp; with_reducible rfl
        simp only [Act.put, List.setIfInBounds_toArray, List.set_cons_zero, List.set_cons_succ]
        refine w_val (v := ?_) rfl ?_ ?_
        rotate_left
        · intro w' hw'; go_simp; with_reducible rfl
        simp only [Act.put, List.setIfInBounds_toArray, List.set_cons_zero, List.set_cons_succ]
        refine w_val (v := ?_) rfl ?_ ?_
        rotate_left
        · intro w' hw'; go_simp; with_reducible rfl
        simp only [Act.put, List.setIfInBounds_toArray, List.set_cons_zero, List.set_cons_succ]
        refine w_val (v := ?_) rfl ?_ ?_
        rotate_left
        · intro w' hw'; obtain ⟨s1, s2, s3, s4⟩ := HST.out _ hw'; go_simp; with_reducible rfl
        simp only [Act.put, List.setIfInBounds_toArray, List.set_cons_zero, List.set_cons_succ]
        refine w_val (v := ?_) rfl ?_ ?_
        rotate_left
        · intro w' hw'; go_simp; with_reducible rfl
        simp only [Act.put, List.setIfInBounds_toArray, List.set_cons_zero, List.set_cons_succ]
        refine w_val (v := ?_) rfl ?_ ?_
        rotate_left
        · intro w' hw'; go_simp; with_reducible rfl
        simp only [Act.put, List.setIfInBounds_toArray, List.set_cons_zero, List.set_cons_succ]
        refine w_val (v := ?_) rfl ?_ ?_
        rotate_left
        · intro w' hw'; go_simp; with_reducible rfl
        simp only [Act.put, List.setIfInBounds_toArray, List.set_cons_zero, List.set_cons_succ]
        refine w_val (v := ?_) rfl ?_ ?_
        rotate_left
        · intro w' hw'; go_simp; with_reducible rfl
        simp only [Act.put, List.setIfInBounds_toArray, List.set_cons_zero, List.set_cons_succ]
        refine w_val (v := ?_) rfl ?_ ?_
        rotate_left
        · intro w' hw'; obtain ⟨s1, s2, s3, s4⟩ := HST.out _ hw'; go_simp; with_reducible rfl
        simp only [Act.put, List.setIfInBounds_toArray, List.set_cons_zero, List.set_cons_succ]
        refine w_val (v := ?_) rfl ?_ ?_
        rotate_left
        · intro w' hw'; go_simp; with_reducible rfl
        simp only [Act.put, List.setIfInBounds_toArray, List.set_cons_zero, List.set_cons_succ]
        refine w_val (v := ?_) rfl ?_ ?_
        rotate_left
        · intro w' hw'; obtain ⟨s1, s2, s3, s4⟩ := HST.out _ hw'; go_simp; with_reducible rfl
        simp only [Act.put, List.setIfInBounds_toArray, List.set_cons_zero, List.set_cons_succ]
        refine w_val (v := ?_) rfl ?_ ?_
        rotate_left
        · intro w' hw'; go_simp; with_reducible rfl
        simp only [Act.put, List.setIfInBounds_toArray, List.set_cons_zero, List.set_cons_succ]
        refine w_val (v := ?_) rfl ?_ ?_
        rotate_left
        · intro w' hw'; go_simp; with_reducible rfl
        simp only [Act.put, List.setIfInBounds_toArray, List.set_cons_zero, List.set_cons_succ]
        refine w_skip rfl ?_
        simp only [Act.put, List.setIfInBounds_toArray, List.set_cons_zero, List.set_cons_succ]
        refine w_skip rfl ?_
        simp only [Act.put, List.setIfInBounds_toArray, List.set_cons_zero, List.set_cons_succ]
        refine w_skip rfl ?_
        simp only [Act.put, List.setIfInBounds_toArray, List.set_cons_zero, List.set_cons_succ]
        refine w_skip rfl ?_
        simp only [Act.put, List.setIfInBounds_toArray, List.set_cons_zero, List.set_cons_succ]
        refine w_skip rfl ?_
        simp only [Act.put, List.setIfInBounds_toArray, List.set_cons_zero, List.set_cons_succ]
        refine w_skip rfl ?_
        simp only [Act.put, List.setIfInBounds_toArray, List.set_cons_zero, List.set_cons_succ]
        refine w_skip rfl ?_
        simp only [Act.put, List.setIfInBounds_toArray, List.set_cons_zero, List.set_cons_succ]
        refine w_skip rfl ?_
        simp only [Act.put, List.setIfInBounds_toArray, List.set_cons_zero, List.set_cons_succ]
        refine w_skip rfl ?_
        simp only [Act.put, List.setIfInBounds_toArray, List.set_cons_zero, List.set_cons_succ]
        refine w_skip rfl ?_
        simp only [Act.put, List.setIfInBounds_toArray, List.set_cons_zero, List.set_cons_succ]
        refine w_skip rfl ?_
        simp only [Act.put, List.setIfInBounds_toArray, List.set_cons_zero, List.set_cons_succ]
        refine w_skip rfl ?_
        simp only [Act.put, List.setIfInBounds_toArray, List.set_cons_zero, List.set_cons_succ]
        refine w_skip rfl ?_
        simp only [Act.put, List.setIfInBounds_toArray, List.set_cons_zero, List.set_cons_succ]
        refine w_skip rfl ?_
        simp only [Act.put, List.setIfInBounds_toArray, List.set_cons_zero, List.set_cons_succ]
        refine w_val (v := ?_) rfl ?_ ?_
        rotate_left
        · intro w' hw'; go_simp; with_reducible rfl
        simp only [Act.put, List.setIfInBounds_toArray, List.set_cons_zero, List.set_cons_succ]
        refine w_val (v := ?_) rfl ?_ ?_
        rotate_left
        · intro w' hw'; go_simp; with_reducible rfl
        simp only [Act.put, List.setIfInBounds_toArray, List.set_cons_zero, List.set_cons_succ]
        refine w_val (v := ?_) rfl ?_ ?_
        rotate_left
        · intro w' hw'; go_simp; with_reducible rfl
        simp only [Act.put, List.setIfInBounds_toArray, List.set_cons_zero, List.set_cons_succ]
        refine w_nil ?_
        intro w5 hW
        go_wp2
        go_ret
        exact ⟨rfl, below_step HQ.out.1 hW⟩
      · refine w_start (fun w' => Below w3.heap.size w3 w') (by kernel_rfl) (by kernel_rfl) (Below.refl _ _).drew ?_
        refine w_val (v := ?_) rfl ?_ ?_
        rotate_left
        · intro w' hw'; go_simp; with_reducible rfl
        simp only [Act.put, List.setIfInBounds_toArray, List.set_cons_zero, List.set_cons_succ]
        refine w_val (v := ?_) rfl ?_ ?_
        rotate_left
        · intro w' hw'; go_simp; with_reducible rfl
        simp only [Act.put, List.setIfInBounds_toArray, List.set_cons_zero, List.set_cons_succ]
        refine w_val (v := ?_) rfl ?_ ?_
        rotate_left
        · intro w' hw'; go_simp; with_reducible rfl
        simp only [Act.put, List.setIfInBounds_toArray, List.set_cons_zero, List.set_cons_succ]
        refine w_val (v := ?_) rfl ?_ ?_
        rotate_left
        · intro w' hw'; obtain ⟨x0, x1, x2, x3, x4, x5, x6, x7, x8, x9⟩ := HXX.out; replace x0 := pw_cell_below hw' x0; replace x1 := pw_cell_below hw' x1; replace x2 := pw_cell_below hw' x2; replace x3 := pw_cell_below hw' x3; replace x4 := pw_cell_below hw' x4; replace x5 := pw_cell_below hw' x5; replace x6 := pw_cell_below hw' x6; replace x7 := pw_cell_below hw' x7; replace x8 := pw_cell_below hw' x8; replace x9 := pw_cell_below hw' x9; go_simp; with_reducible rfl
        simp only [Act.put, List.setIfInBounds_toArray, List.set_cons_zero, List.set_cons_succ]
        refine w_call rfl (f := 15) ?_ (fun w' hw' => (msg_May.calls _ _ _ _ _ _ _ _ _ _ _ _ (HQ.out.2.1.below rfl hw') HM.out).mono fun e w5 ⟨he, hb5⟩ => ⟨he, below_step hw' hb5⟩) ?_
        · (intro w' hw'; go_simp; done)
        simp only [Act.put, List.setIfInBounds_toArray, List.set_cons_zero, List.set_cons_succ]
        refine w_val (v := ?_) rfl ?_ ?_
        rotate_left
        · intro w' hw'; go_simp; with_reducible rfl
        simp only [Act.put, List.setIfInBounds_toArray, List.set_cons_zero, List.set_cons_succ]
        refine w_val (v := ?_) rfl ?_ ?_
        rotate_left
        · intro w' hw'; go_simp; with_reducible rfl
        simp only [Act.put, List.setIfInBounds_toArray, List.set_cons_zero, List.set_cons_succ]
        refine w_val (v := ?_) rfl ?_ ?_
        rotate_left
        · intro w' hw'; go_simp; with_reducible rfl
        simp only [Act.put, List.setIfInBounds_toArray, List.set_cons_zero, List.set_cons_succ]
        refine w_val (v := ?_) rfl ?_ ?_
        rotate_left
        · intro w' hw'; go_simp; with_reducible rfl
        simp only [Act.put, List.setIfInBounds_toArray, List.set_cons_zero, List.set_cons_succ]
        refine w_val (v := ?_) rfl ?_ ?_
        rotate_left
        · intro w' hw'; go_simp; with_reducible rfl
        simp only [Act.put, List.setIfInBounds_toArray, List.set_cons_zero, List.set_cons_succ]
        refine w_val (v := ?_) rfl ?_ ?_
        rotate_left
        · intro w' hw'; go_simp; with_reducible rfl
        simp only [Act.put, List.setIfInBounds_toArray, List.set_cons_zero, List.set_cons_succ]
        refine w_val (v := ?_) rfl ?_ ?_
        rotate_left
        · intro w' hw'; go_simp; with_reducible rfl
        simp only [Act.put, List.setIfInBounds_toArray, List.set_cons_zero, List.set_cons_succ]
        refine w_val (v := ?_) rfl ?_ ?_
        rotate_left
        · intro w' hw'; go_simp; with_reducible rfl
        simp only [Act.put, List.setIfInBounds_toArray, List.set_cons_zero, List.set_cons_succ]
        refine w_val (v := ?_) rfl ?_ ?_
        rotate_left
        · intro w' hw'; go_simp; with_reducible rfl
        simp only [Act.put, List.setIfInBounds_toArray, List.set_cons_zero, List.set_cons_succ]
        refine w_val (v := ?_) rfl ?_ ?_
        rotate_left
        · intro w' hw'; go_simp; with_reducible rfl
        simp only [Act.put, List.setIfInBounds_toArray, List.set_cons_zero, List.set_cons_succ]
        refine w_val (v := ?_) rfl ?_ ?_
        rotate_left
        · intro w' hw'; go_simp; with_reducible rfl
        simp only [Act.put, List.setIfInBounds_toArray, List.set_cons_zero, List.set_cons_succ]
        refine w_val (v := ?_) rfl ?_ ?_
        rotate_left
        · intro w' hw'; go_simp; with_reducible rfl
        simp only [Act.put, List.setIfInBounds_toArray, List.set_cons_zero, List.set_cons_succ]
        refine w_val (v := ?_) rfl ?_ ?_
        rotate_left
        · intro w' hw'; go_simp; with_reducible rfl
        simp only [Act.put, List.setIfInBounds_toArray, List.set_cons_zero, List.set_cons_succ]
        refine w_val (v := ?_) rfl ?_ ?_
        rotate_left
        · intro w' hw'; go_simp; with_reducible rfl
        simp only [Act.put, List.setIfInBounds_toArray, List.set_cons_zero, List.set_cons_succ]
        refine w_val (v := ?_) rfl ?_ ?_
        rotate_left
        · intro w' hw'; go_simp; with_reducible rfl
        simp only [Act.put, List.setIfInBounds_toArray, List.set_cons_zero, List.set_cons_succ]
        refine w_val (v := ?_) rfl ?_ ?_
        rotate_left
        · intro w' hw'; go_simp; with_reducible rfl
        simp only [Act.put, List.setIfInBounds_toArray, List.set_cons_zero, List.set_cons_succ]
        refine w_val (v := ?_) rfl ?_ ?_
        rotate_left
        · intro w' hw'; obtain ⟨s1, s2, s3, s4⟩ := HST.out _ hw'; go_simp; with_reducible rfl
        simp only [Act.put, List.setIfInBounds_toArray, List.set_cons_zero, List.set_cons_succ]
        refine w_val (v := ?_) rfl ?_ ?_
        rotate_left
        · intro w' hw'; go_simp; with_reducible rfl
        simp only [Act.put, List.setIfInBounds_toArray, List.set_cons_zero, List.set_cons_succ]
        refine w_val (v := ?_) rfl ?_ ?_
        rotate_left
        · intro w' hw'; go_simp; with_reducible rfl
        simp only [Act.put, List.setIfInBounds_toArray, List.set_cons_zero, List.set_cons_succ]
        refine w_val (v := ?_) rfl ?_ ?_
        rotate_left
        · intro w' hw'; go_simp; with_reducible rfl
        simp only [Act.put, List.setIfInBounds_toArray, List.set_cons_zero, List.set_cons_succ]
        refine w_val (v := ?_) rfl ?_ ?_
        rotate_left
        · intro w' hw'; go_simp; with_reducible rfl
        simp only [Act.put, List.setIfInBounds_toArray, List.set_cons_zero, List.set_cons_succ]
        refine w_val (v := ?_) rfl ?_ ?_
        rotate_left
        · intro w' hw'; obtain ⟨s1, s2, s3, s4⟩ := HST.out _ hw'; go_simp; with_reducible rfl
        simp only [Act.put, List.setIfInBounds_toArray, List.set_cons_zero, List.set_cons_succ]
        refine w_val (v := ?_) rfl ?_ ?_
        rotate_left
        · intro w' hw'; go_simp; with_reducible rfl
        simp only [Act.put, List.setIfInBounds_toArray, List.set_cons_zero, List.set_cons_succ]
        refine w_val (v := ?_) rfl ?_ ?_
        rotate_left
        · intro w' hw'; go_simp; with_reducible rfl
        simp only [Act.put, List.setIfInBounds_toArray, List.set_cons_zero, List.set_cons_succ]
        refine w_val (v := ?_) rfl ?_ ?_
        rotate_left
        · intro w' hw'; go_simp; with_reducible rfl
        simp only [Act.put, List.setIfInBounds_toArray, List.set_cons_zero, List.set_cons_succ]
        refine w_val (v := ?_) rfl ?_ ?_
        rotate_left
        · intro w' hw'; go_simp; with_reducible rfl
        simp only [Act.put, List.setIfInBounds_toArray, List.set_cons_zero, List.set_cons_succ]
        refine w_val (v := ?_) rfl ?_ ?_
        rotate_left
        · intro w' hw'; obtain ⟨s1, s2, s3, s4⟩ := HST.out _ hw'; go_simp; with_reducible rfl
        simp only [Act.put, List.setIfInBounds_toArray, List.set_cons_zero, List.set_cons_succ]
        refine w_val (v := ?_) rfl ?_ ?_
        rotate_left
        · intro w' hw'; go_simp; with_reducible rfl
        simp only [Act.put, List.setIfInBounds_toArray, List.set_cons_zero, List.set_cons_succ]
        refine w_val (v := ?_) rfl ?_ ?_
        rotate_left
        · intro w' hw'; obtain ⟨s1, s2, s3, s4⟩ := HST.out _ hw'; go_simp; with_reducible rfl
        simp only [Act.put, List.setIfInBounds_toArray, List.set_cons_zero, List.set_cons_succ]
        refine w_val (v := ?_) rfl ?_ ?_
        rotate_left
        · intro w' hw'; go_simp; with_reducible rfl
        simp only [Act.put, List.setIfInBounds_toArray, List.set_cons_zero, List.set_cons_succ]
        refine w_val (v := ?_) rfl ?_ ?_
        rotate_left
        · intro w' hw'; go_simp; with_reducible rfl
        simp only [Act.put, List.setIfInBounds_toArray, List.set_cons_zero, List.set_cons_succ]
        refine w_val (v := ?_) rfl ?_ ?_
        rotate_left
        · intro w' hw'; go_simp; with_reducible rfl
        simp only [Act.put, List.setIfInBounds_toArray, List.set_cons_zero, List.set_cons_succ]
        refine w_val (v := ?_) rfl ?_ ?_
        rotate_left
        · intro w' hw'; go_simp; with_reducible rfl
        simp only [Act.put, List.setIfInBounds_toArray, List.set_cons_zero, List.set_cons_succ]
        refine w_val (v := ?_) rfl ?_ ?_
        rotate_left
        · intro w' hw'; go_simp; with_reducible rfl
        simp only [Act.put, List.setIfInBounds_toArray, List.set_cons_zero, List.set_cons_succ]
        refine w_val (v := ?_) rfl ?_ ?_
        rotate_left
        · intro w' hw'; go_simp; with_reducible rfl
        simp only [Act.put, List.setIfInBounds_toArray, List.set_cons_zero, List.set_cons_succ]
        refine w_val (v := ?_) rfl ?_ ?_
        rotate_left
        · intro w' hw'; have y0' := pw_cell_below hw' HY.out.1; have y1' := pw_cell_below hw' HY.out.2; go_simp; with_reducible rfl
        simp only [Act.put, List.setIfInBounds_toArray, List.set_cons_zero, List.set_cons_succ]
        refine w_val (v := ?_) rfl ?_ ?_
        rotate_left
        · intro w' hw'; go_simp; with_reducible rfl
        simp only [Act.put, List.setIfInBounds_toArray, List.set_cons_zero, List.set_cons_succ]
        refine w_val (v := ?_) rfl ?_ ?_
        rotate_left
        · intro w' hw'; go_simp; with_reducible rfl
        simp only [Act.put, List.setIfInBounds_toArray, List.set_cons_zero, List.set_cons_succ]
        refine w_val (v := ?_) rfl ?_ ?_
        rotate_left
        · intro w' hw'; go_simp; with_reducible rfl
        simp only [Act.put, List.setIfInBounds_toArray, List.set_cons_zero, List.set_cons_succ]
        refine w_val (v := ?_) rfl ?_ ?_
        rotate_left
        · intro w' hw'; go_simp; with_reducible rfl
        simp only [Act.put, List.setIfInBounds_toArray, List.set_cons_zero, List.set_cons_succ]
        refine w_val (v := ?_) rfl ?_ ?_
        rotate_left
        · intro w' hw'; go_simp; with_reducible rfl
        simp only [Act.put, List.setIfInBounds_toArray, List.set_cons_zero, List.set_cons_succ]
        refine w_val (v := ?_) rfl ?_ ?_
        rotate_left
        · intro w' hw'; go_simp; with_reducible rfl
        simp only [Act.put, List.setIfInBounds_toArray, List.set_cons_zero, List.set_cons_succ]
        refine w_val (v := ?_) rfl ?_ ?_
        rotate_left
        · intro w' hw'; have y0' := pw_cell_below hw' HY.out.1; have y1' := pw_cell_below hw' HY.out.2; go_simp; with_reducible rfl
        simp only [Act.put, List.setIfInBounds_toArray, List.set_cons_zero, List.set_cons_succ]
        refine w_val (v := ?_) rfl ?_ ?_
        rotate_left
        · intro w' hw'; go_simp; with_reducible rfl
        simp only [Act.put, List.setIfInBounds_toArray, List.set_cons_zero, List.set_cons_succ]
        refine w_val (v := ?_) rfl ?_ ?_
        rotate_left
        · intro w' hw'; go_simp; with_reducible rfl
        simp only [Act.put, List.setIfInBounds_toArray, List.set_cons_zero, List.set_cons_succ]
        refine w_val (v := ?_) rfl ?_ ?_
        rotate_left
        · intro w' hw'; go_simp; with_reducible rfl
        simp only [Act.put, List.setIfInBounds_toArray, List.set_cons_zero, List.set_cons_succ]
        refine w_val (v := ?_) rfl ?_ ?_
        rotate_left
        · intro w' hw'; go_simp; with_reducible rfl
        simp only [Act.put, List.setIfInBounds_toArray, List.set_cons_zero, List.set_cons_succ]
        refine w_val (v := ?_) rfl ?_ ?_
        rotate_left
        · intro w' hw'; go_simp; with_reducible rfl
        simp only [Act.put, List.setIfInBounds_toArray, List.set_cons_zero, List.set_cons_succ]
        refine w_nil ?_
        intro w5 hW
        go_wp2
        go_ret
        exact ⟨rfl, below_step HQ.out.1 hW⟩
theorem frameSame_walk (a0 : Option Addr) (len0 cap0 : Nat) (z0 : List Int) (w : World) (hG : Glob w) (w0 : (a0 = none ∧ len0 = 0 ∧ cap0 = 0 ∧ z0 = []) ∨ ∃ x, a0 = some x ∧ len0 ≤ cap0 ∧ cap0 ≤ maxLen ∧ z0.length = cap0 ∧ (∀ i, i < z0.length → w.cell? (x.add i) = some (.int .u8 (z0.getD i 0))) ∧ ∀ n ∈ z0, (Lit.int .u8 n).wf = true) :
    Calls Tryd.prog 7 #[.slice a0 len0 cap0] w fun e w' => e = .returned (.bool true) ∧ Below w.heap.size w w' := by
  obtain ⟨l0, rfl, hr0, hm0, hw0, hc0⟩ := ReadsInt.ofRowC w0
  exact frameSame_calls _ _ l0 w (Kd.C_of_reads (d := (0 : Int)) (h1 := fun _ => rfl) hr0) hc0 hG (Bys.of_wf hw0)
end Go.Proofs.YtpaoofkahhhjaaaDoor.All
