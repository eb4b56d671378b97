/-
  Chapter 7: seek: the way to a prefix, by the tree that the array holds.
-/
import Derived.Test.YtjffikckddijmaaTgC
import Derived.Test.YtjffikckddijmaaTriD
namespace Go.Proofs.Ytjffikckddijmaa
open Go.RowKit Go.Proofs.YtjffikckddijmaaW.PrintWords Go.Proofs.YtjffikckddijmaaW.PrintLast Go.Proofs.YtjffikckddijmaaW.PrintMore
open All All.BM
attribute [local go_sem] max2_int min2_int max_two min_two max_three min_three max_four min_four
set_option linter.unusedVariables false
set_option linter.unusedSimpArgs false
/-- A node of the array is a node of the tree. -/
structure IsNd (x : Nd) (q : K) (s : Option Int) : Prop where
  a : x.a = (ad q : Int)
  n : x.n = (q.length : Int)
  b : x.b = s.isSome
  v : ∀ v, s = some v → x.v = v
/-- The array holds the tree, its root at 'at'. -/
def Holds (ns : List Nd) : Int → T → Prop
  | at_, .nil => at_ = -1
  | at_, .nd i q s l r => at_ = (i : Int) ∧ ∃ x, ns[i]? = some x ∧ IsNd x q s ∧ Holds ns x.k0 l ∧ Holds ns x.k1 r
def rootOf : T → Int
  | .nil => -1
  | .nd i _ _ _ _ => (i : Int)
theorem Holds.root {ns : List Nd} {at_ : Int} : ∀ {t : T}, Holds ns at_ t → at_ = rootOf t
  | .nil, h => h
  | .nd _ _ _ _ _, h => h.1
def bi (b : Bool) : Int := if b then 1 else 0
/-- Where the way ends: whose kid, on which side, and the number there. -/
def seekT (p : K) : T → Int → Int → Int × Int × Int
  | .nil, par, side => (par, side, -1)
  | .nd i q s l r, par, side => if stop q p then (par, side, (i : Int)) else seekT p (if bitOf p q.length then r else l) i (bi (bitOf p q.length))
  termination_by t => t.size
  decreasing_by simp only [T.size]; split <;> omega
theorem stop_no {q p : K} (h : stop q p = false) : ¬ (lcp p q).length < q.length ∧ q.length ≠ p.length := by
  have h1 := stop_false h
  have h2 := ne_of_snoc h1
  have h3 : q <+: lcp p q := lcp_great (pre_of_snoc h1) List.prefix_rfl
  have := h3.length_le
  omega
theorem stop_yes {q p : K} (h : stop q p = true) : (lcp p q).length < q.length ∨ (¬ (lcp p q).length < q.length ∧ q.length = p.length) := by
  by_cases h1 : (lcp p q).length < q.length
  · exact .inl h1
  · refine .inr ⟨h1, ?_⟩
    have h2 := lcp_right p q
    have h3 := h2.length_le
    have h4 := pre_eq h2 (by omega)
    have h5 := lcp_left p q
    rw [h4] at h5
    rw [stop_true h h5]
def Short (t : T) : Prop := ∀ x ∈ t.keys, x.length ≤ 32
theorem Short.left {i : Nat} {q : K} {s : Option Int} {l r : T} (h : Short (.nd i q s l r)) : Short l := fun x hx => h x (by simp [T.keys, hx])
theorem Short.right {i : Nat} {q : K} {s : Option Int} {l r : T} (h : Short (.nd i q s l r)) : Short r := fun x hx => h x (by simp [T.keys, hx])
theorem Short.own {i : Nat} {q : K} {s : Option Int} {l r : T} (h : Short (.nd i q s l r)) : q.length ≤ 32 := h q (by simp [T.keys])
set_option maxHeartbeats 4000000 in
set_option maxRecDepth 100000 in
theorem seek_any {w : World} {base g : Nat} {sl : Value} {s : St} (h : TM w base g sl s) {t : T} (hT : Holds s.ns s.root t) (hk : Short t) {p : K} (hp : p.length ≤ 32) :
    Calls Try.prog 25 #[.pointer (some ⟨g, 0, none⟩), .agg #[.int .i64 (ad p), .int .i64 p.length]] w fun e w' =>
      e = .returned (.tuple #[.int .i64 (seekT p t (-1) 0).1, .int .i64 (seekT p t (-1) 0).2.1, .int .i64 (seekT p t (-1) 0).2.2]) ∧ Below w.heap.size w w' := by
  obtain ⟨c0, c1, c2, c3, c4⟩ := h.cs
  have hg := h.lt
  have H := Aside0.mk h
  have HT := Aside0.mk hT
  clear h hT
  go_enter Try.func25, Try.ntmps25
  go_wp2
  go_step3
  go_wp2
  go_quiet (fail)
  go_wp2
  go_step3
  go_wp2
  go_loopg [4, 5, 6] t.size (fun k v4 v5 v6 wr => ∃ (S : T) (par side at_ : Int), v4 = .int .i64 par ∧ v5 = .int .i64 side ∧ v6 = .int .i64 at_ ∧
    Aside0 (k = S.size ∧ Holds s.ns at_ S ∧ Short S ∧ seekT p S par side = seekT p t (-1) 0) ∧ Below w.heap.size w wr ∧
    wr.cell? ⟨w.heap.size, 0, none⟩ = some (.int .i64 (ad p)) ∧ wr.cell? ⟨w.heap.size, 1, none⟩ = some (.int .i64 p.length) ∧ w.heap.size < wr.heap.size)
  case atStart => exact ⟨t, -1, 0, s.root, rfl, rfl, rfl, ⟨⟨rfl, HT.out, hk, rfl⟩⟩, by repeat (first | exact Below.refl _ _ | apply pw_below_drewN | apply below_alloc), by go_simp, by go_simp, by simp⟩
  case round =>
    obtain ⟨S, par, side, at_, rfl, rfl, rfl, ⟨hgk, hS, hsh, hsk⟩, hB, b0, b1, hlt⟩ := hrel
    clear HT
    have H1 := H.out.below hB
    clear c0 c1 c2 c3 c4
    obtain ⟨c0, c1, c2, c3, c4⟩ := H1.cs
    cases S with
    | nil =>
      obtain rfl : at_ = -1 := hS
      have HSK := Aside0.mk hsk
      clear hsk
      go_wp2
      rw [Exit.noGoto_ret]
      go_ret3
      rw [← HSK.out, seekT]
      exact ⟨rfl, hB⟩
    | nd i q sv l r =>
      obtain ⟨rfl, x, hx, hnd, hl, hr⟩ := hS
      obtain ⟨ab, cap, e, hba, hab, hag, hi, d0, d1, d2, d3, d4, d5, hfz⟩ := H1.node hx
      have hcap := H1.few
      rw [e] at c0
      rw [hnd.a] at d0
      rw [hnd.n] at d1
      have HX := Aside0.mk (And.intro hx (And.intro hnd (And.intro hl (And.intro hr (And.intro hsh (And.intro hsk hgk))))))
      clear hx hnd hl hr hsk hgk e
      have hq := hsh.own
      clear hsh hk H1 H
      have hc := t_common hp hq
      cases hst : stop q p
      · obtain ⟨e1, e2⟩ := stop_no hst
        have g3 : decide (((lcp p q).length : Int) < (q.length : Int)) = false := by simpa using e1
        have g4 : ((q.length : Int) == (p.length : Int)) = false := by rw [beq_eq_false_iff_ne]; omega
        have g1 : decide ((lcp p q).length < q.length) = false := by simpa using e1
        have g2 : (q.length == p.length) = false := by simpa using e2
        clear e1 e2
        have hbit := t_BitK hp q.length
        have hst' := Aside0.mk hst
        have HC := Aside0.mk hc
        clear hst hc
        cases hb : bitOf p q.length
        · rw [hb] at hbit
          have HQ := Aside0.mk hbit
          have HBB := Aside0.mk hb
          clear hbit hb
          go_wp2
          go_region_held3 (fun w' => w'.cell? ⟨w.heap.size, 0, none⟩ = some (.int .i64 (ad p)) ∧ w'.cell? ⟨w.heap.size, 1, none⟩ = some (.int .i64 p.length) ∧ w'.cell? ⟨wr.heap.size, 0, none⟩ = some (.int .i64 (ad q)) ∧ w'.cell? ⟨wr.heap.size, 1, none⟩ = some (.int .i64 q.length) ∧ w'.cell? ⟨wr.heap.size, 2, none⟩ = some (.int .i64 x.k0) ∧ w'.cell? ⟨wr.heap.size, 3, none⟩ = some (.int .i64 x.k1))
            (first | go_keep | (go_split_ands; exact ⟨pw_cell_below hb5 (by assumption), pw_cell_below hb5 (by assumption), pw_cell_below hb5 (by assumption), pw_cell_below hb5 (by assumption), pw_cell_below hb5 (by assumption), pw_cell_below hb5 (by assumption)⟩))
            (first | (go_at_call 26; refine (trie_common.calls _ _ _ _ _ _ HC.out).mono ?_; rintro e w5 ⟨rfl, hb5⟩))
          rename_i hHeld
          have hW : Below w.heap.size w w5 := below_then (hB.alloc (Nat.le_of_lt hlt) _).drew (by simp; omega) hb5
          clear hb5
          have HW := Aside0.mk hW
          clear hW
          go_wp2_with (first | (go_at_call 29; refine (bits_Bit.calls _ _ _ _ HQ.out).mono ?_; rintro e w6 ⟨rfl, ⟨n, rfl⟩⟩))
          obtain ⟨q0, q1, _, _, _, _⟩ := hHeld
          obtain ⟨hx, hnd, hl, hr, hsh, hsk, hgk⟩ := HX.out
          have hlt5 := World.block_lt_of_cell? w5 _ q0
          go_roundg l.size
          case measure => rw [hgk]; simp only [T.size]; omega
          case rel => exact ⟨l, (i : Int), 0, x.k0, rfl, rfl, rfl, ⟨⟨rfl, hl, hsh.left, by rw [← hsk, seekT, if_neg (by rw [hst'.out]; simp), HBB.out]; rfl⟩⟩, by repeat (first | exact HW.out | apply pw_below_drewN), q0, q1, by simpa using hlt5⟩
        · rw [hb] at hbit
          have HQ := Aside0.mk hbit
          have HBB := Aside0.mk hb
          clear hbit hb
          go_wp2
          go_region_held3 (fun w' => w'.cell? ⟨w.heap.size, 0, none⟩ = some (.int .i64 (ad p)) ∧ w'.cell? ⟨w.heap.size, 1, none⟩ = some (.int .i64 p.length) ∧ w'.cell? ⟨wr.heap.size, 0, none⟩ = some (.int .i64 (ad q)) ∧ w'.cell? ⟨wr.heap.size, 1, none⟩ = some (.int .i64 q.length) ∧ w'.cell? ⟨wr.heap.size, 2, none⟩ = some (.int .i64 x.k0) ∧ w'.cell? ⟨wr.heap.size, 3, none⟩ = some (.int .i64 x.k1))
            (first | go_keep | (go_split_ands; exact ⟨pw_cell_below hb5 (by assumption), pw_cell_below hb5 (by assumption), pw_cell_below hb5 (by assumption), pw_cell_below hb5 (by assumption), pw_cell_below hb5 (by assumption), pw_cell_below hb5 (by assumption)⟩))
            (first | (go_at_call 26; refine (trie_common.calls _ _ _ _ _ _ HC.out).mono ?_; rintro e w5 ⟨rfl, hb5⟩))
          rename_i hHeld
          have hW : Below w.heap.size w w5 := below_then (hB.alloc (Nat.le_of_lt hlt) _).drew (by simp; omega) hb5
          clear hb5
          have HW := Aside0.mk hW
          clear hW
          go_wp2_with (first | (go_at_call 29; refine (bits_Bit.calls _ _ _ _ HQ.out).mono ?_; rintro e w6 ⟨rfl, ⟨n, rfl⟩⟩))
          obtain ⟨q0, q1, _, _, _, _⟩ := hHeld
          obtain ⟨hx, hnd, hl, hr, hsh, hsk, hgk⟩ := HX.out
          have hlt5 := World.block_lt_of_cell? w5 _ q0
          go_roundg r.size
          case measure => rw [hgk]; simp only [T.size]; omega
          case rel => exact ⟨r, (i : Int), 1, x.k1, rfl, rfl, rfl, ⟨⟨rfl, hr, hsh.right, by rw [← hsk, seekT, if_neg (by rw [hst'.out]; simp), HBB.out]; rfl⟩⟩, by repeat (first | exact HW.out | apply pw_below_drewN), q0, q1, by simpa using hlt5⟩
      · have hst' := Aside0.mk hst
        have HC := Aside0.mk hc
        clear hc
        rcases stop_yes hst with e1 | ⟨e1, e2⟩
        · have g3 : decide (((lcp p q).length : Int) < (q.length : Int)) = true := by simpa using e1
          have g1 : decide ((lcp p q).length < q.length) = true := by simpa using e1
          clear hst e1
          go_wp2
          refine q_start (fun w' => Below wr.heap.size wr w' ∧ w'.cell? ⟨w.heap.size, 0, none⟩ = some (.int .i64 (ad p)) ∧ w'.cell? ⟨w.heap.size, 1, none⟩ = some (.int .i64 p.length) ∧ w'.cell? ⟨wr.heap.size, 0, none⟩ = some (.int .i64 (ad q)) ∧ w'.cell? ⟨wr.heap.size, 1, none⟩ = some (.int .i64 q.length)) (by kernel_rfl) (by kernel_rfl) ⟨((Below.refl _ _).alloc (Nat.le_refl _) _).drew, by go_simp, by go_simp, by go_simp, by go_simp⟩ ?_
          repeat (first
            | (refine q_skip rfl ?_)
            | (refine q_want rfl (q_val (v := ?_) ?_ ?_)
               rotate_left
               · (intro w' hw'; obtain ⟨_, h0, h1, h2, h3⟩ := hw'; go_simp; with_reducible rfl)
               simp only [Act.put, List.setIfInBounds_toArray, List.set_cons_zero, List.set_cons_succ])
            | (refine q_want rfl (q_call (f := 26) ?_ (fun w' hw' => (trie_common.calls _ _ _ _ _ _ HC.out).mono fun e w5 ⟨he, hb5⟩ => ⟨he, ?_⟩) ?_)
               · (intro w' hw'; obtain ⟨_, h0, h1, h2, h3⟩ := hw'; go_simp; done)
               · obtain ⟨hb, h0, h1, h2, h3⟩ := hw'
                 exact ⟨below_step hb hb5, pw_cell_below hb5 h0, pw_cell_below hb5 h1, pw_cell_below hb5 h2, pw_cell_below hb5 h3⟩
               simp only [Act.put, List.setIfInBounds_toArray, List.set_cons_zero, List.set_cons_succ]))
          refine wpQuiet_nil ?_
          rintro w5 ⟨hW, -, -, -, -⟩
          go_wp2
          rw [Exit.noGoto_ret]
          go_ret3
          obtain ⟨hx, hnd, hl, hr, hsh, hsk, hgk⟩ := HX.out
          rw [← hsk, seekT, if_pos hst'.out]
          exact ⟨rfl, below_step hB hW⟩
        · have g3 : decide (((lcp p q).length : Int) < (q.length : Int)) = false := by simpa using e1
          have g1 : decide ((lcp p q).length < q.length) = false := by simpa using e1
          have g4 : ((q.length : Int) == (p.length : Int)) = true := by rw [beq_iff_eq]; omega
          have g2 : (q.length == p.length) = true := by simpa using e2
          clear hst e1 e2
          go_wp2
          refine q_start (fun w' => Below wr.heap.size wr w' ∧ w'.cell? ⟨w.heap.size, 0, none⟩ = some (.int .i64 (ad p)) ∧ w'.cell? ⟨w.heap.size, 1, none⟩ = some (.int .i64 p.length) ∧ w'.cell? ⟨wr.heap.size, 0, none⟩ = some (.int .i64 (ad q)) ∧ w'.cell? ⟨wr.heap.size, 1, none⟩ = some (.int .i64 q.length)) (by kernel_rfl) (by kernel_rfl) ⟨((Below.refl _ _).alloc (Nat.le_refl _) _).drew, by go_simp, by go_simp, by go_simp, by go_simp⟩ ?_
          repeat (first
            | (refine q_skip rfl ?_)
            | (refine q_want rfl (q_val (v := ?_) ?_ ?_)
               rotate_left
               · (intro w' hw'; obtain ⟨_, h0, h1, h2, h3⟩ := hw'; go_simp; with_reducible rfl)
               simp only [Act.put, List.setIfInBounds_toArray, List.set_cons_zero, List.set_cons_succ])
            | (refine q_want rfl (q_call (f := 26) ?_ (fun w' hw' => (trie_common.calls _ _ _ _ _ _ HC.out).mono fun e w5 ⟨he, hb5⟩ => ⟨he, ?_⟩) ?_)
               · (intro w' hw'; obtain ⟨_, h0, h1, h2, h3⟩ := hw'; go_simp; done)
               · obtain ⟨hb, h0, h1, h2, h3⟩ := hw'
                 exact ⟨below_step hb hb5, pw_cell_below hb5 h0, pw_cell_below hb5 h1, pw_cell_below hb5 h2, pw_cell_below hb5 h3⟩
               simp only [Act.put, List.setIfInBounds_toArray, List.set_cons_zero, List.set_cons_succ]))
          refine wpQuiet_nil ?_
          rintro w5 ⟨hW, -, -, -, -⟩
          go_wp2
          rw [Exit.noGoto_ret]
          go_ret3
          obtain ⟨hx, hnd, hl, hr, hsh, hsk, hgk⟩ := HX.out
          rw [← hsk, seekT, if_pos hst'.out]
          exact ⟨rfl, below_step hB hW⟩
end Go.Proofs.Ytjffikckddijmaa
