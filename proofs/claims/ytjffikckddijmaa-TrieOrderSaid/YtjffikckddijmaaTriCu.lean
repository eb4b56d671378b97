/-
  Chapter 7: Cut.
-/
import Derived.Test.YtjffikckddijmaaTgK
import Derived.Test.YtjffikckddijmaaTriZa
namespace Go.Proofs.Ytjffikckddijmaa
open Go.RowKit Go.Proofs.YtjffikckddijmaaW.PrintWords Go.Proofs.YtjffikckddijmaaW.PrintLast Go.Proofs.YtjffikckddijmaaW.PrintMore
open All All.BM
attribute [local go_sem] max2_int min2_int max_two min_two max_three min_three max_four min_four
set_option linter.unusedVariables false
set_option linter.unusedSimpArgs false
attribute [local go_sem high] eqA31 eqA33
set_option maxHeartbeats 2000000 in
set_option maxRecDepth 100000 in
theorem cut_bad (p0 : Option Addr) (a n : Int) (h : ¬ isPre a n) (w : World) : Calls Try.prog 17 #[.pointer p0, .agg #[.int .i64 a, .int .i64 n]] w fun e w' => e = .returned (.int .i64 1) ∧ Below w.heap.size w w' := by
  have HM := Aside0.mk (may_no h)
  clear h
  go_enter Try.func17, Try.ntmps17
  go_wp2_with (first | (go_at_call 18; refine (bits_May.calls _ _ _ _ HM.out).mono ?_; rintro e w1 ⟨rfl, hb⟩))
  go_ret
  exact ⟨rfl, below_step ((Below.refl _ _).alloc (Nat.le_refl _) _) hb⟩
set_option maxHeartbeats 2000000 in
set_option maxRecDepth 100000 in
theorem cut_nil (p : K) (hp : p.length ≤ 32) (w : World) : Calls Try.prog 17 #[.pointer none, .agg #[.int .i64 (ad p), .int .i64 p.length]] w fun e w' => e = .returned (.int .i64 5) ∧ Below w.heap.size w w' := by
  have HM := Aside0.mk (may_yes hp)
  go_enter Try.func17, Try.ntmps17
  go_wp2_with (first | (go_at_call 18; refine (bits_May.calls _ _ _ _ HM.out).mono ?_; rintro e w1 ⟨rfl, hb⟩) | (go_at_call 31; refine (empty_nil _).mono ?_; rintro e w2 ⟨rfl, rfl⟩))
  go_ret
  exact ⟨rfl, below_step ((Below.refl _ _).alloc (Nat.le_refl _) _) hb⟩
set_option maxHeartbeats 2000000 in
set_option maxRecDepth 100000 in
theorem cut_empty {w : World} {base g : Nat} {sl : Value} {s : St} (h : TM w base g sl s) (p : K) (hp : p.length ≤ 32) (hu : s.used = 0) : Calls Try.prog 17 #[.pointer (some ⟨g, 0, none⟩), .agg #[.int .i64 (ad p), .int .i64 p.length]] w fun e w' => e = .returned (.int .i64 5) ∧ Below w.heap.size w w' := by
  have HM := Aside0.mk (may_yes hp)
  have H := Aside0.mk h
  have hu1 : (s.used == 0) = true := by simpa using hu
  clear h hu
  go_enter Try.func17, Try.ntmps17
  go_wp2_with (first
    | (go_at_call 18; refine (bits_May.calls _ _ _ _ HM.out).mono ?_; rintro e w1 ⟨rfl, hb⟩; have hb := below_step ((Below.refl _ _).alloc (Nat.le_refl _) _) hb; have H1 := Aside0.mk (H.out.below hb))
    | (go_at_call 31; refine (empty_any H1.out).mono ?_; rintro e w2 ⟨rfl, rfl⟩))
  go_ret
  exact ⟨rfl, hb⟩
set_option maxHeartbeats 2000000 in
set_option maxRecDepth 100000 in
theorem cut_none {w : World} {base g : Nat} {sl : Value} {s : St} (h : TM w base g sl s) {t : T} {fl : List Nat} (hR : Rep0 s t fl) (p : K) (hp : p.length ≤ 32) (hu : s.used ≠ 0)
    (hs : T.sub p t = .nil) :
    Calls Try.prog 17 #[.pointer (some ⟨g, 0, none⟩), .agg #[.int .i64 (ad p), .int .i64 p.length]] w fun e w' => e = .returned (.int .i64 5) ∧ Below w.heap.size w w' := by
  have HM := Aside0.mk (may_yes hp)
  have H := Aside0.mk h
  have HR := Aside0.mk hR
  have hg := h.lt
  have hue : (s.used == 0) = false := by simpa using hu
  have hat : rootOf (T.sub p t) = -1 := by rw [hs]; rfl
  clear h hR hs hu
  have HAT := Aside0.mk hat
  clear hat
  go_enter Try.func17, Try.ntmps17
  go_wp2_with (first
    | (go_at_call 18; refine (bits_May.calls _ _ _ _ HM.out).mono ?_; rintro e w1 ⟨rfl, hb⟩; have hB1 : Below w.heap.size w w1 := below_step ((Below.refl _ _).alloc (Nat.le_refl _) _) hb; have q0 : w1.cell? ⟨w.heap.size, 0, none⟩ = some (.int .i64 (ad p)) := pw_cell_below hb (by go_simp); have q1 : w1.cell? ⟨w.heap.size, 1, none⟩ = some (.int .i64 p.length) := pw_cell_below hb (by go_simp); have H1 := Aside0.mk (H.out.below hB1); have HB1 := Aside0.mk hB1; clear hb hB1)
    | (go_at_call 31; refine (empty_any H1.out).mono ?_; rintro e w2 ⟨rfl, rfl⟩)
    | (go_at_call 25; refine (seek_p H1.out HR.out hp).mono ?_; rintro e w2 ⟨rfl, hb⟩; have p0 : w2.cell? ⟨w.heap.size, 0, none⟩ = some (.int .i64 (ad p)) := pw_cell_below hb q0; have p1 : w2.cell? ⟨w.heap.size, 1, none⟩ = some (.int .i64 p.length) := pw_cell_below hb q1; have H2 := H1.out.below hb; clear q0 q1; obtain ⟨c0, c1, c2, c3, c4⟩ := H2.cs; have H2 := Aside0.mk H2; have HB2 := Aside0.mk (below_step HB1.out hb); clear hb; rw [HAT.out]))
  have hg2 := H2.out.lt
  have hgp := World.block_lt_of_cell? w2 _ p0
  go_quiet (fail)
  go_wp2
  go_ret
  exact ⟨rfl, by repeat (first | exact HB2.out | apply pw_below_drewN)⟩
set_option maxHeartbeats 2000000 in
set_option maxRecDepth 100000 in
theorem cut_other {w : World} {base g : Nat} {sl : Value} {s : St} (h : TM w base g sl s) {t : T} {fl : List Nat} (hR : Rep0 s t fl) (p : K) (hp : p.length ≤ 32) (hu : s.used ≠ 0)
    {m : Nat} {q : K} {sv : Option Int} {l r : T} (hs : T.sub p t = .nd m q sv l r) (hne : q ≠ p) :
    Calls Try.prog 17 #[.pointer (some ⟨g, 0, none⟩), .agg #[.int .i64 (ad p), .int .i64 p.length]] w fun e w' => e = .returned (.int .i64 5) ∧ Below w.heap.size w w' := by
  have HM := Aside0.mk (may_yes hp)
  have H := Aside0.mk h
  have HR := Aside0.mk hR
  have hg := h.lt
  have hue : (s.used == 0) = false := by simpa using hu
  have hat : rootOf (T.sub p t) = (m : Int) := by rw [hs]; rfl
  obtain ⟨x, hx, hnd, -, -, hmt⟩ := hR.subNode hs
  have HX := Aside0.mk hx
  have hnd := Aside0.mk hnd
  have hq : q.length ≤ 32 := hR.short q (by
    have := T.sub_keys (p := p) (t := t) (k := q) (by rw [hs]; simp [T.keys])
    exact this)
  have hk1 := key_ne hp hq hne
  have hk2 := key_ne' hp hq hne
  clear hne
  clear h hR hs hu hmt hx
  have HAT := Aside0.mk hat
  clear hat
  go_enter Try.func17, Try.ntmps17
  go_wp2_with (first
    | (go_at_call 18; refine (bits_May.calls _ _ _ _ HM.out).mono ?_; rintro e w1 ⟨rfl, hb⟩; have hB1 : Below w.heap.size w w1 := below_step ((Below.refl _ _).alloc (Nat.le_refl _) _) hb; have q0 : w1.cell? ⟨w.heap.size, 0, none⟩ = some (.int .i64 (ad p)) := pw_cell_below hb (by go_simp); have q1 : w1.cell? ⟨w.heap.size, 1, none⟩ = some (.int .i64 p.length) := pw_cell_below hb (by go_simp); have H1 := Aside0.mk (H.out.below hB1); have HB1 := Aside0.mk hB1; clear hb hB1)
    | (go_at_call 31; refine (empty_any H1.out).mono ?_; rintro e w2 ⟨rfl, rfl⟩)
    | (go_at_call 25; refine (seek_p H1.out HR.out hp).mono ?_; rintro e w2 ⟨rfl, hb⟩; have p0 : w2.cell? ⟨w.heap.size, 0, none⟩ = some (.int .i64 (ad p)) := pw_cell_below hb q0; have p1 : w2.cell? ⟨w.heap.size, 1, none⟩ = some (.int .i64 p.length) := pw_cell_below hb q1; have H2 := H1.out.below hb; clear q0 q1; obtain ⟨c0, c1, c2, c3, c4⟩ := H2.cs; have H2 := Aside0.mk H2; have HB2 := Aside0.mk (below_step HB1.out hb); clear hb; rw [HAT.out]))
  obtain ⟨ab, cap, e, hba, hab, hag, hi, d0, d1, d2, d3, d4, d5, hfz⟩ := H2.out.node HX.out
  rw [hnd.out.a] at d0
  rw [hnd.out.n] at d1
  rw [hnd.out.b] at d4
  have hcap := H2.out.few
  subst e
  have hm2 : ((m : Int) == -1) = false := by rw [beq_eq_false_iff_ne]; omega
  have hga : g ≠ ab := fun e => hag e.symm
  have hg2 := H2.out.lt
  have hgp := World.block_lt_of_cell? w2 _ p0
  go_quiet (fail)
  go_wp2
  go_ret
  exact ⟨rfl, by repeat (first | exact HB2.out | apply pw_below_drewN)⟩
set_option maxHeartbeats 2000000 in
set_option maxRecDepth 100000 in
theorem cut_un {w : World} {base g : Nat} {sl : Value} {s : St} (h : TM w base g sl s) {t : T} {fl : List Nat} (hR : Rep0 s t fl) (p : K) (hp : p.length ≤ 32) (hu : s.used ≠ 0)
    {m : Nat} {l r : T} (hs : T.sub p t = .nd m p none l r) :
    Calls Try.prog 17 #[.pointer (some ⟨g, 0, none⟩), .agg #[.int .i64 (ad p), .int .i64 p.length]] w fun e w' => e = .returned (.int .i64 5) ∧ Below w.heap.size w w' := by
  have HM := Aside0.mk (may_yes hp)
  have H := Aside0.mk h
  have HR := Aside0.mk hR
  have hg := h.lt
  have hue : (s.used == 0) = false := by simpa using hu
  have hat : rootOf (T.sub p t) = (m : Int) := by rw [hs]; rfl
  obtain ⟨x, hx, hnd, -, -, hmt⟩ := hR.subNode hs
  have HX := Aside0.mk hx
  have hnd := Aside0.mk hnd
  clear h hR hs hu hmt hx
  have HAT := Aside0.mk hat
  clear hat
  go_enter Try.func17, Try.ntmps17
  go_wp2_with (first
    | (go_at_call 18; refine (bits_May.calls _ _ _ _ HM.out).mono ?_; rintro e w1 ⟨rfl, hb⟩; have hB1 : Below w.heap.size w w1 := below_step ((Below.refl _ _).alloc (Nat.le_refl _) _) hb; have q0 : w1.cell? ⟨w.heap.size, 0, none⟩ = some (.int .i64 (ad p)) := pw_cell_below hb (by go_simp); have q1 : w1.cell? ⟨w.heap.size, 1, none⟩ = some (.int .i64 p.length) := pw_cell_below hb (by go_simp); have H1 := Aside0.mk (H.out.below hB1); have HB1 := Aside0.mk hB1; clear hb hB1)
    | (go_at_call 31; refine (empty_any H1.out).mono ?_; rintro e w2 ⟨rfl, rfl⟩)
    | (go_at_call 25; refine (seek_p H1.out HR.out hp).mono ?_; rintro e w2 ⟨rfl, hb⟩; have p0 : w2.cell? ⟨w.heap.size, 0, none⟩ = some (.int .i64 (ad p)) := pw_cell_below hb q0; have p1 : w2.cell? ⟨w.heap.size, 1, none⟩ = some (.int .i64 p.length) := pw_cell_below hb q1; have H2 := H1.out.below hb; clear q0 q1; obtain ⟨c0, c1, c2, c3, c4⟩ := H2.cs; have H2 := Aside0.mk H2; have HB2 := Aside0.mk (below_step HB1.out hb); clear hb; rw [HAT.out]))
  obtain ⟨ab, cap, e, hba, hab, hag, hi, d0, d1, d2, d3, d4, d5, hfz⟩ := H2.out.node HX.out
  rw [hnd.out.a] at d0
  rw [hnd.out.n] at d1
  rw [hnd.out.b] at d4
  simp only [Option.isSome] at d4
  have hcap := H2.out.few
  subst e
  have hm2 : ((m : Int) == -1) = false := by rw [beq_eq_false_iff_ne]; omega
  have hga : g ≠ ab := fun e => hag e.symm
  have hg2 := H2.out.lt
  have hgp := World.block_lt_of_cell? w2 _ p0
  go_quiet (fail)
  go_wp2
  go_ret
  exact ⟨rfl, by repeat (first | exact HB2.out | apply pw_below_drewN)⟩
/-- What Cut leaves: the tree t. -/
def CutP (w : World) (base g : Nat) (sl : Value) (t : T) (room : Int) (e : Ending) (w' : World) : Prop := ∃ s2 fl2, Did w base g sl (.int .i64 0) s2 e w' ∧ Rep0 s2 t fl2 ∧ s2.room = room
theorem heal_use {w : World} {base g : Nat} {sl : Value} {s : St} (h : TM w base g sl s) {t : T} {fl : List Nat} (hR : Rep0 s t fl) {p : K} {m : Nat} {q : K} {sv : Option Int} {l r : T} (hs : T.sub p t = .nd m q sv l r)
    (hu1 : s.used ≤ 1000) {a side : Int} (ha : parOf (plc p t) = a) (hsd : sideOf (plc p t) = side) {R : Ending → World → Prop} (hk : ∀ s' fl', Rep0 s' (T.repl p T.hl t) fl' → s'.room = s.room → ∀ e w', Did w base g sl (.tuple #[]) s' e w' → R e w') :
    Calls Try.prog 33 #[.pointer (some ⟨g, 0, none⟩), .int .i64 a, .int .i64 side, .int .i64 m] w R := by
  subst ha
  subst hsd
  obtain ⟨s', fl', h1, h2, h3⟩ := heal_any h hR hs hu1 (plc_any h fun i b e => hR.plcLt e)
  exact h3.mono (hk s' fl' h1 h2)
theorem Did.trans {w w1 w2 : World} {base g : Nat} {sl sl1 : Value} {v : Value} {s2 : St} {e : Ending} (F : Fr w w1 g sl.ownBlock) (A : sl1.ownBlock = sl.ownBlock ∨ ∃ k, sl1.ownBlock = some k ∧ w.heap.size ≤ k) (D : Did w1 base g sl1 v s2 e w2) : Did w base g sl v s2 e w2 := by
  obtain ⟨sl3, rfl, T3, F3, A3⟩ := D
  exact ⟨sl3, rfl, T3, F.trans F3 A, A3.elim (fun e => A.elim (fun e1 => .inl (e.trans e1)) (fun ⟨k, e1, hk⟩ => .inr ⟨k, e.trans e1, hk⟩)) fun ⟨k, e, hk⟩ => .inr ⟨k, e, Nat.le_trans F.size hk⟩⟩
set_option maxHeartbeats 2000000 in
set_option maxRecDepth 100000 in
theorem cut_go {w : World} {base g : Nat} {sl : Value} {s : St} (h : TM w base g sl s) {t : T} {fl : List Nat} (hR : Rep0 s t fl) (p : K) (hp : p.length ≤ 32) (hu : s.used ≠ 0)
    {m : Nat} {v : Int} {l r : T} (hs : T.sub p t = .nd m p (some v) l r) (hw : t.WF) (hu1 : s.used ≤ 1000) :
    Calls Try.prog 17 #[.pointer (some ⟨g, 0, none⟩), .agg #[.int .i64 (ad p), .int .i64 p.length]] w (CutP w base g sl (T.del p t) s.room) := by
  have HM := Aside0.mk (may_yes hp)
  have H := Aside0.mk h
  have HR := Aside0.mk hR
  have hg := h.lt
  have hue : (s.used == 0) = false := by simpa using hu
  have hat : rootOf (T.sub p t) = (m : Int) := by rw [hs]; rfl
  obtain ⟨x, hx, hnd, -, -, hmt⟩ := hR.subNode hs
  have R0 : Rep0 { s with ns := s.ns.set m { x with b := false } } (T.repl p (fun _ => .nd m p none l r) t) fl := hR.mark (y := { x with b := false }) hx ⟨hnd.a, hnd.n, rfl, fun u hu => by cases hu⟩ rfl rfl hs
  obtain ⟨sr1, sr2, -⟩ := sub_repl (s' := none) (l' := l) (r' := r) hs
  have HTREE := Aside0.mk (cut_tree hw hs)
  have R0 := Aside0.mk R0
  have SR1 := Aside0.mk sr1
  have HX := Aside0.mk hx
  have hnd := Aside0.mk hnd
  have hu1' : ({ s with ns := s.ns.set m { x with b := false } } : St).used ≤ 1000 := hu1
  cases hpl : plc p t with
  | none =>
    have SR2 := Aside0.mk (sr2.trans hpl)
    have SR2a : Aside0 (parOf (plc p (T.repl p (fun _ => .nd m p none l r) t)) = -1) := ⟨by rw [SR2.out]; rfl⟩
    have SR2b : Aside0 (sideOf (plc p (T.repl p (fun _ => .nd m p none l r) t)) = 0) := ⟨by rw [SR2.out]; rfl⟩
    have HPAR : Aside0 (parOf (plc p t) = -1) := ⟨by rw [hpl]; rfl⟩
    have HSIDE : Aside0 (sideOf (plc p t) = 0) := ⟨by rw [hpl]; rfl⟩
    have HPL := Aside0.mk hpl
    clear h hR hs hu hmt hx hw sr1 sr2 hpl
    have HAT := Aside0.mk hat
    clear hat
    have HF1 : Aside0 True := ⟨trivial⟩
    go_enter Try.func17, Try.ntmps17
    go_wp2_with (first
      | (go_at_call 18; refine (bits_May.calls _ _ _ _ HM.out).mono ?_; rintro e w1 ⟨rfl, hb⟩; have hB1 : Below w.heap.size w w1 := below_step ((Below.refl _ _).alloc (Nat.le_refl _) _) hb; have q0 : w1.cell? ⟨w.heap.size, 0, none⟩ = some (.int .i64 (ad p)) := pw_cell_below hb (by go_simp); have q1 : w1.cell? ⟨w.heap.size, 1, none⟩ = some (.int .i64 p.length) := pw_cell_below hb (by go_simp); have H1 := Aside0.mk (H.out.below hB1); have HB1 := Aside0.mk hB1; clear hb hB1)
      | (go_at_call 31; refine (empty_any H1.out).mono ?_; rintro e w2 ⟨rfl, rfl⟩)
      | (go_at_call 25; refine (seek_p H1.out HR.out hp).mono ?_; rintro e w2 ⟨rfl, hb⟩; have p0 : w2.cell? ⟨w.heap.size, 0, none⟩ = some (.int .i64 (ad p)) := pw_cell_below hb q0; have p1 : w2.cell? ⟨w.heap.size, 1, none⟩ = some (.int .i64 p.length) := pw_cell_below hb q1; have H2 := H1.out.below hb; clear q0 q1; obtain ⟨c0, c1, c2, c3, c4⟩ := H2.cs; have H2 := Aside0.mk H2; have HB2 := Aside0.mk (below_step HB1.out hb); clear hb; rw [HAT.out, HPAR.out, HSIDE.out]))
    obtain ⟨ab, cap, e, hba, hab, hag, hi, d0, d1, d2, d3, d4, d5, hfz⟩ := H2.out.node HX.out
    rw [hnd.out.a] at d0
    rw [hnd.out.n] at d1
    rw [hnd.out.b] at d4
    simp only [Option.isSome] at d4
    have hcap := H2.out.few
    subst e
    have hm2 : ((m : Int) == -1) = false := by rw [beq_eq_false_iff_ne]; omega
    have hga : g ≠ ab := fun e => hag e.symm
    have hg2 := H2.out.lt
    have hgp := World.block_lt_of_cell? w2 _ p0
    go_quiet (fail)
    have F2 : Fr w w2 g (some ab) := Fr.of_below HB2.out g (some ab)
    have F2 := Aside0.mk F2
    have T2 : ∀ n, TM ((w2.drewN n).setCell ⟨ab, m * 6 + 4, none⟩ (.bool false)) base g (.slice (some ⟨ab, 0, none⟩) s.ns.length cap) { s with ns := s.ns.set m { x with b := false } } := fun n => (H2.out.drewN n).setNode (j := 4) HX.out (by omega) rfl
    have T2 := Aside0.mk T2
    go_wp2_with (first
      | (have hf1_ := HF1; go_at_call 33; refine heal_use (base := base) (sl := .slice (some ⟨ab, 0, none⟩) s.ns.length cap) (s := { s with ns := s.ns.set m { x with b := false } }) (a := -1) (side := 0) ?hT R0.out SR1.out hu1' SR2a.out SR2b.out ?_; (case hT => first | exact T2.out _ | exact (T2.out 0)); clear HF1 hf1_; intro s1 fl1 R1 er1; rintro e w3 ⟨sl1, rfl, T1, F1, A1⟩; have T1 := Aside0.mk T1; have F1 := Aside0.mk F1; have A1 := Aside0.mk A1; have R1 := Aside0.mk R1; have er1 := Aside0.mk er1))
    go_ret
    have F2' : Fr w ((w2.drewN nq).setCell ⟨ab, m * 6 + 4, none⟩ (.bool false)) g (some ab) := (F2.out.drewN nq).set (.inr (.inl rfl)) _
    exact ⟨s1, fl1, Did.trans (sl1 := .slice (some ⟨ab, 0, none⟩) s.ns.length cap) F2' (.inl rfl) ⟨sl1, rfl, T1.out, F1.out, A1.out⟩, by rw [HTREE.out.1 HPL.out]; exact R1.out, er1.out⟩
  | some y =>
    obtain ⟨i, b⟩ := y
    have SR2 := Aside0.mk (sr2.trans hpl)
    have SR2a : Aside0 (parOf (plc p (T.repl p (fun _ => .nd m p none l r) t)) = (i : Int)) := ⟨by rw [SR2.out]; rfl⟩
    have SR2b : Aside0 (sideOf (plc p (T.repl p (fun _ => .nd m p none l r) t)) = bi b) := ⟨by rw [SR2.out]; rfl⟩
    have HPAR : Aside0 (parOf (plc p t) = (i : Int)) := ⟨by rw [hpl]; rfl⟩
    have HSIDE : Aside0 (sideOf (plc p t) = bi b) := ⟨by rw [hpl]; rfl⟩
    obtain ⟨k, ek, efn⟩ := par_sub hw hpl
    have HK : ∃ s' l' r', T.sub k (T.repl p T.hl (T.repl p (fun _ => .nd m p none l r) t)) = .nd i k s' l' r' := by rw [(sub_repl hs).2.2]; exact efn _
    obtain ⟨ks, kl, kr, HK⟩ := HK
    have HK := Aside0.mk HK
    have EK := Aside0.mk ek
    have hi1' : ((i : Int) != -1) = true := by rw [bne_iff_ne]; omega
    clear ek efn
    have HPL := Aside0.mk hpl
    clear h hR hs hu hmt hx hw sr1 sr2 hpl
    have HAT := Aside0.mk hat
    clear hat
    have HF1 : Aside0 True := ⟨trivial⟩
    go_enter Try.func17, Try.ntmps17
    go_wp2_with (first
      | (go_at_call 18; refine (bits_May.calls _ _ _ _ HM.out).mono ?_; rintro e w1 ⟨rfl, hb⟩; have hB1 : Below w.heap.size w w1 := below_step ((Below.refl _ _).alloc (Nat.le_refl _) _) hb; have q0 : w1.cell? ⟨w.heap.size, 0, none⟩ = some (.int .i64 (ad p)) := pw_cell_below hb (by go_simp); have q1 : w1.cell? ⟨w.heap.size, 1, none⟩ = some (.int .i64 p.length) := pw_cell_below hb (by go_simp); have H1 := Aside0.mk (H.out.below hB1); have HB1 := Aside0.mk hB1; clear hb hB1)
      | (go_at_call 31; refine (empty_any H1.out).mono ?_; rintro e w2 ⟨rfl, rfl⟩)
      | (go_at_call 25; refine (seek_p H1.out HR.out hp).mono ?_; rintro e w2 ⟨rfl, hb⟩; have p0 : w2.cell? ⟨w.heap.size, 0, none⟩ = some (.int .i64 (ad p)) := pw_cell_below hb q0; have p1 : w2.cell? ⟨w.heap.size, 1, none⟩ = some (.int .i64 p.length) := pw_cell_below hb q1; have H2 := H1.out.below hb; clear q0 q1; obtain ⟨c0, c1, c2, c3, c4⟩ := H2.cs; have H2 := Aside0.mk H2; have HB2 := Aside0.mk (below_step HB1.out hb); clear hb; rw [HAT.out, HPAR.out, HSIDE.out]))
    obtain ⟨ab, cap, e, hba, hab, hag, hi, d0, d1, d2, d3, d4, d5, hfz⟩ := H2.out.node HX.out
    rw [hnd.out.a] at d0
    rw [hnd.out.n] at d1
    rw [hnd.out.b] at d4
    simp only [Option.isSome] at d4
    have hcap := H2.out.few
    subst e
    have hm2 : ((m : Int) == -1) = false := by rw [beq_eq_false_iff_ne]; omega
    have hga : g ≠ ab := fun e => hag e.symm
    have hg2 := H2.out.lt
    have hgp := World.block_lt_of_cell? w2 _ p0
    go_quiet (fail)
    have F2 : Fr w w2 g (some ab) := Fr.of_below HB2.out g (some ab)
    have F2 := Aside0.mk F2
    have T2 : ∀ n, TM ((w2.drewN n).setCell ⟨ab, m * 6 + 4, none⟩ (.bool false)) base g (.slice (some ⟨ab, 0, none⟩) s.ns.length cap) { s with ns := s.ns.set m { x with b := false } } := fun n => (H2.out.drewN n).setNode (j := 4) HX.out (by omega) rfl
    have T2 := Aside0.mk T2
    go_wp2_with (first
      | (have hf1_ := HF1; go_at_call 33; refine heal_use (base := base) (sl := .slice (some ⟨ab, 0, none⟩) s.ns.length cap) (s := { s with ns := s.ns.set m { x with b := false } }) (a := (i : Int)) (side := bi b) ?hT R0.out SR1.out hu1' SR2a.out SR2b.out ?_; (case hT => first | exact T2.out _ | exact (T2.out 0)); clear HF1 hf1_; intro s1 fl1 R1 er1; rintro e w3 ⟨sl1, rfl, T1, F1, A1⟩; obtain ⟨y, hy, hyn, -, -, -⟩ := R1.subNode HK.out; have hkl : k.length ≤ 32 := R1.short k (T.sub_keys (p := k) (by rw [HK.out]; simp [T.keys])); have hus1 : s1.used ≤ 1000 := (by have h1 := R1.used; have h2 := R1.pool.len; have h3 := T1.few; rw [T.size_idx] at h2; omega); obtain ⟨ab1, cap1, e1, -, hab1, hag1, hi1, y0, y1, -, -, -, -, -⟩ := T1.node hy; rw [hyn.a] at y0; rw [hyn.n] at y1; have hcap1 := T1.few; have k0 := T1.cs.1; rw [e1] at k0; clear e1 hy hyn; have T1 := Aside0.mk T1; have F1 := Aside0.mk F1; have A1 := Aside0.mk A1; have R1 := Aside0.mk R1; have er1 := Aside0.mk er1)
      | (go_at_call 25; refine (seek_p T1.out R1.out hkl).mono ?_; rintro e w4 ⟨rfl, hb4⟩; have T4 := Aside0.mk (T1.out.below hb4); have F4 := Aside0.mk (Fr.of_below hb4 g sl1.ownBlock); clear hb4)
      | (go_at_call 33; refine heal_use (base := base) (sl := sl1) (s := s1) T4.out R1.out HK.out hus1 rfl rfl ?_; intro s2 fl2 R2 er2; rintro e w5 ⟨sl2, rfl, T5, F5, A5⟩; have T5 := Aside0.mk T5; have F5 := Aside0.mk F5; have A5 := Aside0.mk A5; have R2 := Aside0.mk R2; have er2 := Aside0.mk er2))
    go_ret
    have F2' : Fr w ((w2.drewN nq).setCell ⟨ab, m * 6 + 4, none⟩ (.bool false)) g (some ab) := (F2.out.drewN nq).set (.inr (.inl rfl)) _
    have D1 : Did w3 base g sl1 (.int .i64 0) s2 (.returned (.int .i64 0)) w5 := ⟨sl2, rfl, T5.out, Fr.trans F4.out F5.out (.inl rfl), A5.out.elim .inl fun ⟨k, e, hk⟩ => .inr ⟨k, e, Nat.le_trans F4.out.size hk⟩⟩
    refine ⟨s2, fl2, Did.trans (Fr.trans F2' F1.out (.inl rfl)) ?_ D1, by rw [HTREE.out.2 k EK.out]; exact R2.out, er2.out.trans er1.out⟩
    exact A1.out.elim .inl fun ⟨k, e, hk⟩ => .inr ⟨k, e, Nat.le_trans F2'.size hk⟩

end Go.Proofs.Ytjffikckddijmaa
