/-
  Chapter 7: a trie in memory: its struct, and the array of its nodes.
-/
import Derived.Test.YtjffikckddijmaaQ1TgA
import Derived.Test.YtjffikckddijmaaQ1Allx0
namespace Go.Proofs.Ytjffikckddijmaa
open Go.RowKit Go.Proofs.YtjffikckddijmaaW.PrintWords Go.Proofs.YtjffikckddijmaaW.PrintLast Go.Proofs.YtjffikckddijmaaW.PrintMore
set_option linter.unusedVariables false
set_option linter.unusedSimpArgs false
structure Nd where
  a : Int
  n : Int
  k0 : Int
  k1 : Int
  b : Bool
  v : Int
def Nd.cells (x : Nd) : List Value := [.int .i64 x.a, .int .i64 x.n, .int .i64 x.k0, .int .i64 x.k1, .bool x.b, .int .i64 x.v]
def rows (ns : List Nd) : List Value := ns.flatMap Nd.cells
theorem rows_cons (x : Nd) (t : List Nd) : rows (x :: t) = x.cells ++ rows t := rfl
theorem rows_append (s t : List Nd) : rows (s ++ t) = rows s ++ rows t := by simp [rows]
theorem rows_one (x : Nd) : rows [x] = x.cells := by simp [rows]
theorem rows_get : ∀ {ns : List Nd} {i : Nat} {x : Nd} {j : Nat}, ns[i]? = some x → j < 6 → (rows ns)[i * 6 + j]? = x.cells[j]?
  | [], _, _, _, h, _ => by simp at h
  | y :: t, 0, x, j, h, hj => by
    simp at h; subst h
    rw [rows_cons, Nat.zero_mul, Nat.zero_add, List.getElem?_append_left (by simp [Nd.cells]; omega)]
  | y :: t, i + 1, x, j, h, hj => by
    rw [rows_cons, List.getElem?_append_right (by simp [Nd.cells]; omega)]
    have : (i + 1) * 6 + j - y.cells.length = i * 6 + j := by simp [Nd.cells]; omega
    rw [this]
    exact rows_get (by simpa using h) hj
theorem rows_set : ∀ {ns : List Nd} {i : Nat} {x y : Nd} {j : Nat} {u : Value}, ns[i]? = some x → j < 6 → x.cells.set j u = y.cells → (rows ns).set (i * 6 + j) u = rows (ns.set i y)
  | [], _, _, _, _, _, h, _, _ => by simp at h
  | z :: t, 0, x, y, j, u, h, hj, hs => by
    simp at h; subst h
    rw [rows_cons, Nat.zero_mul, Nat.zero_add, List.set_append_left _ _ (by simp [Nd.cells]; omega), hs]
    rfl
  | z :: t, i + 1, x, y, j, u, h, hj, hs => by
    rw [rows_cons, List.set_append_right _ _ (by simp [Nd.cells]; omega)]
    have : (i + 1) * 6 + j - z.cells.length = i * 6 + j := by simp [Nd.cells]; omega
    rw [this, rows_set (by simpa using h) hj hs]
    rfl
structure St where
  ns : List Nd
  root : Int
  free : Int
  used : Int
  room : Int
def St.cells (s : St) (sl : Value) : Array Value := #[sl, .int .i64 s.root, .int .i64 s.free, .int .i64 s.used, .int .i64 s.room]
structure TM (w : World) (base g : Nat) (sl : Value) (s : St) : Prop where
  blk : w.heap[g]? = some (.cells (s.cells sl) 56 (0, 0))
  row : w.ownsRow base 64 6 sl s.ns.length (rows s.ns)
  bg : base ≤ g
  few : s.ns.length ≤ 1000
  apart : sl.ownBlock ≠ some g
structure Fr (w w' : World) (g : Nat) (a : Option Nat) : Prop where
  os : w'.os = w.os
  tape : w'.tape = w.tape
  output : w'.output = w.output
  size : w.heap.size ≤ w'.heap.size
  block : ∀ k, k < w.heap.size → k ≠ g → some k ≠ a → w'.heap[k]? = w.heap[k]?
theorem TM.lt {w : World} {base g : Nat} {sl : Value} {s : St} (h : TM w base g sl s) : g < w.heap.size := (Array.getElem?_eq_some_iff.1 h.blk).1
theorem blk_c {w : World} {g : Nat} {cs : Array Value} {t : TypeId} (h : w.heap[g]? = some (.cells cs t (0, 0))) (i : Nat) : w.cell? ⟨g, i, none⟩ = cs[i]? := by simp [World.cell?, h]
theorem blk_f {w : World} {g : Nat} {cs : Array Value} {t : TypeId} (h : w.heap[g]? = some (.cells cs t (0, 0))) (i : Nat) : w.frozen? ⟨g, i, none⟩ = false := by simp [World.frozen?, h]
theorem TM.cs {w : World} {base g : Nat} {sl : Value} {s : St} (h : TM w base g sl s) : w.cell? ⟨g, 0, none⟩ = some sl ∧ w.cell? ⟨g, 1, none⟩ = some (.int .i64 s.root) ∧ w.cell? ⟨g, 2, none⟩ = some (.int .i64 s.free) ∧
    w.cell? ⟨g, 3, none⟩ = some (.int .i64 s.used) ∧ w.cell? ⟨g, 4, none⟩ = some (.int .i64 s.room) := by
  have := blk_c h.blk
  exact ⟨this 0, this 1, this 2, this 3, this 4⟩
theorem TM.node {w : World} {base g : Nat} {sl : Value} {s : St} (h : TM w base g sl s) {i : Nat} {x : Nd} (hx : s.ns[i]? = some x) : ∃ ab cap, sl = .slice (some ⟨ab, 0, none⟩) s.ns.length cap ∧ base ≤ ab ∧ ab < w.heap.size ∧ ab ≠ g ∧ i < s.ns.length ∧
    w.cell? ⟨ab, i * 6, none⟩ = some (.int .i64 x.a) ∧ w.cell? ⟨ab, i * 6 + 1, none⟩ = some (.int .i64 x.n) ∧ w.cell? ⟨ab, i * 6 + 2, none⟩ = some (.int .i64 x.k0) ∧ w.cell? ⟨ab, i * 6 + 3, none⟩ = some (.int .i64 x.k1) ∧
    w.cell? ⟨ab, i * 6 + 4, none⟩ = some (.bool x.b) ∧ w.cell? ⟨ab, i * 6 + 5, none⟩ = some (.int .i64 x.v) ∧ (∀ o, w.frozen? ⟨ab, o, none⟩ = false) := by
  have hi : i < s.ns.length := by
    rcases Nat.lt_or_ge i s.ns.length with h1 | h1
    · exact h1
    · rw [List.getElem?_eq_none h1] at hx; cases hx
  obtain ⟨ab, cap, e, _, _⟩ := h.row.form (by omega)
  have hb := h.row.lt ab (by rw [e]; rfl)
  have hc := h.row.cells (g := ab) (by rw [e]; rfl)
  have hat : ∀ j u, j < 6 → x.cells[j]? = some u → w.cell? ⟨ab, i * 6 + j, none⟩ = some u := fun j u hj hu => by
    have := hc (i * 6 + j) u (by rw [rows_get hx hj]; exact hu)
    rwa [show ((⟨ab, 0, none⟩ : Addr).add (i * 6 + j)) = ⟨ab, i * 6 + j, none⟩ by unfold Addr.add; split <;> simp_all] at this
  refine ⟨ab, cap, e, hb.1, hb.2, fun e2 => h.apart (by rw [e, e2]; rfl), hi, hat 0 _ (by omega) rfl, hat 1 _ (by omega) rfl, hat 2 _ (by omega) rfl, hat 3 _ (by omega) rfl, hat 4 _ (by omega) rfl, hat 5 _ (by omega) rfl, fun o => ?_⟩
  rcases h.row.2 with ⟨e2, _⟩ | ⟨g', cap', cur, e2, _, hh, _⟩
  · rw [e] at e2; cases e2
  · rw [e] at e2
    injection e2 with e2 _ _
    injection e2 with e2
    injection e2 with e2
    subst e2
    simp [World.frozen?, hh]
theorem Fr.refl (w : World) (g : Nat) (a : Option Nat) : Fr w w g a := ⟨rfl, rfl, rfl, Nat.le_refl _, fun _ _ _ _ => rfl⟩
theorem Fr.trans {w w1 w2 : World} {g : Nat} {a a1 : Option Nat} (h : Fr w w1 g a) (h1 : Fr w1 w2 g a1) (ha : a1 = a ∨ ∃ b, a1 = some b ∧ w.heap.size ≤ b) : Fr w w2 g a :=
  ⟨h1.os.trans h.os, h1.tape.trans h.tape, h1.output.trans h.output, Nat.le_trans h.size h1.size, fun k hk hg hka => (h1.block k (Nat.lt_of_lt_of_le hk h.size) hg (by
    rcases ha with rfl | ⟨b, rfl, hb⟩
    · exact hka
    · intro e; injection e with e; omega)).trans (h.block k hk hg hka)⟩
theorem Fr.of_below {w w1 : World} (h : Below w.heap.size w w1) (g : Nat) (a : Option Nat) : Fr w w1 g a := ⟨h.os, h.tape, h.output, h.size, fun k hk _ _ => h.block k hk⟩
theorem TM.below {w w1 : World} {base g : Nat} {sl : Value} {s : St} (h : TM w base g sl s) (hb : Below w.heap.size w w1) : TM w1 base g sl s :=
  ⟨(hb.block g h.lt).trans h.blk, pw_own_below h.row hb, h.bg, h.few, h.apart⟩
end Go.Proofs.Ytjffikckddijmaa
namespace Go.Proofs.Ytjffikckddijmaa
open Go.RowKit Go.Proofs.YtjffikckddijmaaW.PrintWords Go.Proofs.YtjffikckddijmaaW.PrintLast Go.Proofs.YtjffikckddijmaaW.PrintMore
attribute [local go_sem] max2_int min2_int max_two min_two max_three min_three max_four min_four
set_option linter.unusedVariables false
set_option linter.unusedSimpArgs false
theorem empty_nil (w : World) : Calls Try.prog 31 #[.pointer none] w fun e w' => e = .returned (.bool true) ∧ w' = w := by
  go_enter Try.func31, Try.ntmps31
  go_wp2
  go_ret
  exact ⟨rfl, rfl⟩
theorem empty_any {w : World} {base g : Nat} {sl : Value} {s : St} (h : TM w base g sl s) : Calls Try.prog 31 #[.pointer (some ⟨g, 0, none⟩)] w fun e w' => e = .returned (.bool (s.used == 0)) ∧ w' = w := by
  obtain ⟨c0, c1, c2, c3, c4⟩ := h.cs
  clear h
  go_enter Try.func31, Try.ntmps31
  go_wp2
  go_ret
  exact ⟨rfl, rfl⟩
theorem nodes_any {w : World} {base g : Nat} {sl : Value} {s : St} (h : TM w base g sl s) : Calls Try.prog 13 #[.pointer (some ⟨g, 0, none⟩)] w fun e w' => e = .returned (.int .i64 s.used) ∧ w' = w := by
  obtain ⟨c0, c1, c2, c3, c4⟩ := h.cs
  clear h
  go_enter Try.func13, Try.ntmps13
  go_wp2
  go_ret
  exact ⟨rfl, rfl⟩
def bd1000 (n : Int) : Int := min (max n 0) 1000
theorem new_any (n : Int) (w : World) : Calls Try.prog 11 #[.int .i64 n] w fun e w' => e = .returned (.pointer (some ⟨w.heap.size, 0, none⟩)) ∧ w' = w.alloc (.cells #[.slice none 0 0, .int .i64 (-1), .int .i64 (-1), .int .i64 0, .int .i64 (bd1000 n)] 56) := by
  go_enter Try.func11, Try.ntmps11
  go_wp2
  all_goals
    go_ret
    refine ⟨rfl, ?_⟩
    first
      | (rw [show bd1000 n = 0 by unfold bd1000; omega])
      | (rw [show bd1000 n = 1000 by unfold bd1000; omega])
      | (rw [show bd1000 n = n by unfold bd1000; omega])
theorem place_root {w : World} {g : Nat} (side : Int) : Calls Try.prog 28 #[.pointer (some ⟨g, 0, none⟩), .int .i64 (-1), .int .i64 side] w fun e w' => e = .returned (.pointer (some ⟨g, 1, none⟩)) ∧ w' = w := by
  go_enter Try.func28, Try.ntmps28
  go_wp2
  go_ret
  exact ⟨rfl, rfl⟩
end Go.Proofs.Ytjffikckddijmaa
namespace Go.Proofs.Ytjffikckddijmaa
open Go.RowKit Go.Proofs.YtjffikckddijmaaW.PrintWords
section
variable {P : Program} {ops : Array Oper} {C : World → Prop} {Q : Act → Prop} {a : Act} {o : Oper} {rest : List Oper} {K : Act → Prop}
theorem q_start {id : Nat} {Q : Exit → Act → World → Prop} {w : World} {l : List Oper} (C : World → Prop) (hm : P.follows .mixedOrders = true) (hB : Region.lexB .any l.toArray = true) (hC : C w.drew)
    (h : wpQuiet P l.toArray C (fun a' => ∀ w', C w' → Q .normal a' w') l a) : (Code.region id l.toArray true).wp P Q a w :=
  wp_region_quiet (C := C) hm hB hC (by simpa using h)
theorem q_want (hw : Region.wanted o (yielded ops a.tmps) = true) (h : o.quiet P a C (wpQuiet P ops C Q rest)) : wpQuiet P ops C Q (o :: rest) a := by
  unfold wpQuiet
  rw [if_pos hw]
  exact h
theorem q_skip (hw : Region.wanted o (yielded ops a.tmps) = false) (h : wpQuiet P ops C Q rest (a.put o.dst undef)) : wpQuiet P ops C Q (o :: rest) a := by
  unfold wpQuiet
  rw [if_neg (by rw [hw]; exact Bool.false_ne_true)]
  exact h
theorem q_val {v : Value} (hrun : ∀ w, C w → (execOp a.eval o).run P w = .ok (.value v) w) (hk : K (a.put o.dst v)) : o.quiet P a C K :=
  ⟨v, fun w hw => by unfold Oper.quietAt; rw [hrun w hw]; exact ⟨rfl, rfl⟩, hk⟩
theorem q_call {v : Value} {f : FuncId} {args : Array Value} (hrun : ∀ w, C w → (execOp a.eval o).run P w = .ok (.enter f args) w)
    (hcall : ∀ w, C w → Calls P f args w fun e w' => e = .returned v ∧ C w') (hk : K (a.put o.dst v)) : o.quiet P a C K :=
  ⟨v, fun w hw => by unfold Oper.quietAt; rw [hrun w hw]; exact ⟨rfl, hcall w hw⟩, hk⟩
end
end Go.Proofs.Ytjffikckddijmaa
