/-
  Chapter 7: the trie's walk: an iterator that calls itself; Walk: all that are told of, in order.
-/
/-
  Chapter 7: Walk: all that are told of, in order, in an array of its own.
-/
/-
  Chapter 7: Walk: the entries, collected.
-/
import Derived.RangeFuncNested
import Derived.RangeFuncBound
import Derived.RangeFuncCalls
import Derived.RangeFuncLeaves
import Derived.RangeFuncBox
import Derived.RangeFuncKeeps
import Derived.Shelf.Abstract
import Derived.Shelf.RegionOpen
import Derived.WalkKit
import Derived.OwnWalkIn
import Derived.TacticsInMore
import Derived.LoopNIn
import Derived.LoopIn
import Derived.Maps.AppendAt
import Derived.Test.YtjffikckddijmaaTriS
namespace Go.Proofs.Ytjffikckddijmaa
open Go.RowKit Go.Shelf Go.Proofs.YtjffikckddijmaaW.PrintWords Go.Proofs.YtjffikckddijmaaW.PrintLast Go.Proofs.YtjffikckddijmaaW.PrintMore
attribute [local go_sem] Oper.semAt_some
set_option linter.unusedVariables false
set_option linter.unusedSimpArgs false
theorem anyDepth_round {F : Fence} (hd : F.depth = none) {m m' : Nat} {P : Program} {l : Nat} {f : FuncId} {tmps : Array Value} {assign body : Code} {w : World} {R : Ending → World → Prop}
    (h : RoundIn F m P l f tmps assign body w R) : RoundIn F m' P l f tmps assign body w R := ⟨h.1, fun c cs _ => h.2 c cs (fun d h => by rw [hd] at h; cases h)⟩
theorem anyDepth_yield {F : Fence} (hd : F.depth = none) {m : Nat} (m' : Nat) {P : Program} {l : Nat} {args : Array Value} {W : World} {R : Ending → World → Prop} (h : YieldAt F m P l args W R) : YieldAt F m' P l args W R := by
  obtain ⟨fn, tmps, assign, body, hy, hR⟩ := h
  exact ⟨fn, tmps, assign, body, hy, anyDepth_round hd hR⟩
/-- What a round keeps: what lay below n₀, and every node or copy of one. -/
structure Kp (n₀ : Nat) (W W' : World) : Prop where
  b : Below n₀ W W'
  n : ∀ (k : Nat) (cs : Array Value), W.heap[k]? = some (Obj.cells cs 64 (0, 0)) → W'.heap[k]? = some (Obj.cells cs 64 (0, 0))
theorem Kp.trans {n₀ : Nat} {A B C : World} (h : Kp n₀ A B) (k : Kp n₀ B C) : Kp n₀ A C := ⟨h.b.trans k.b, fun i cs hi => k.n i cs (h.n i cs hi)⟩
theorem Kp.refl (n₀ : Nat) (A : World) : Kp n₀ A A := ⟨Below.refl _ _, fun _ _ h => h⟩
theorem Kp.alloc {n₀ : Nat} {A B : World} (h : Kp n₀ A B) (o : Obj) (hn : n₀ ≤ B.heap.size) : Kp n₀ A (B.alloc o) :=
  ⟨h.b.alloc hn o, fun i cs hi => (Below.heap_alloc B o i (Array.getElem?_eq_some_iff.1 (h.n i cs hi)).1).trans (h.n i cs hi)⟩
theorem Kp.put {n₀ : Nat} {w : World} (hn : n₀ ≤ w.heap.size) (W : World) (l : Nat) (o o' : Obj) (hl : w.heap.size ≤ l) (h : W.heap[l]? = some o) (ho : o.isCells = false) (hw : o.isWalk = false) : Kp n₀ W (W.putObj l o') :=
  ⟨belowK_b hn W l o o' hl h ho hw, fun i cs hi => by
    have hne : i ≠ l := by rintro rfl; rw [h] at hi; cases hi; cases ho
    exact (World.putObj_heap_other hne).trans hi⟩
def encE (e : K × Int) : Value := .agg #[.int .i64 (ad e.1), .int .i64 e.1.length, .int .i64 e.2]
/-- The trie lies below n₀. -/
structure TN (n₀ : Nat) (W : World) (base g : Nat) (sl : Value) (s : St) : Prop where
  t : TM W base g sl s
  g : g < n₀
  a : ∀ k, sl.ownBlock = some k → k < n₀
  n : n₀ ≤ W.heap.size
theorem TN.below {n₀ : Nat} {W W' : World} {base g : Nat} {sl : Value} {s : St} (h : TN n₀ W base g sl s) (hb : Below n₀ W W') : TN n₀ W' base g sl s := by
  refine ⟨⟨(hb.block g h.g).trans h.t.blk, ?_, h.t.bg, h.t.few, h.t.apart⟩, h.g, h.a, Nat.le_trans h.n hb.size⟩
  obtain ⟨h1, h2⟩ := h.t.row
  refine ⟨h1, h2.elim .inl fun ⟨g', cap, cur, e, hb', hh, r⟩ => .inr ⟨g', cap, cur, e, hb', ?_, r⟩⟩
  exact (hb.block g' (h.a g' (by rw [e]; rfl))).trans hh
set_option maxRecDepth 100000 in
set_option maxHeartbeats 4000000 in
theorem walkIn_t (F : Fence) (hd : F.depth = none) (h42 : F.fn 42) (hro : F.round = none) (l n₀ N B : Nat) (base g : Nat) (sl : Value) (s : St) (J Jx : List (K × Int) → World → Prop) (hJ : AbidesFrom B J)
    (hY : ∀ m pre x W, J pre W → pre.length < N → YieldAt F m Try.prog l #[encE x] W fun e W' =>
      (e = .returned (.bool true) ∧ J (pre ++ [x]) W' ∧ Kp n₀ W W') ∨ (e = .returned (.bool false) ∧ Jx (pre ++ [x]) W')) (t : T) :
    ∀ (n : Nat) (at_ : Int) (pre : List (K × Int)) (W : World), TN n₀ W base g sl s → Holds s.ns at_ t → J pre W → pre.length + t.ents.length ≤ N →
      CallsIn F n Try.prog 42 #[.pointer (some ⟨g, 0, none⟩), .int .i64 at_, .func (.yield l) #[] #[]] W fun e W' =>
        (e = .returned (.bool true) ∧ J (pre ++ t.ents) W' ∧ Kp n₀ W W') ∨ (e = .returned (.bool false) ∧ ∃ q, q <+: t.ents ∧ Jx (pre ++ q) W') := by
  induction t with
  | nil =>
    intro n at_ pre W hT hH hj _
    obtain rfl : at_ = -1 := hH
    refine callsIn_of_wp Try.func42 rfl h42 ?_ hro
    simp only [Try.ntmps42, List.size_toArray, List.length_cons, List.length_nil, Nat.reduceAdd, Nat.reduceSub, Array.replicate_succ, Array.replicate_zero, List.push_toArray, List.append_toArray, List.nil_append, List.cons_append]
    gi_wp2
    go_ret
    exact .inl ⟨rfl, by simpa [T.ents] using hj, Kp.refl _ _⟩
  | nd i q sv tl tr ihl ihr =>
    intro n at_ pre W hT hH hj hN
    obtain ⟨rfl, x, hx, hnd, hl, hr⟩ := hH
    obtain ⟨c0, c1, c2, c3, c4⟩ := hT.t.cs
    obtain ⟨ab, cap, e, hba, hab, hag, hi, d0, d1, d2, d3, d4, d5, hfz⟩ := hT.t.node hx
    have hcap := hT.t.few
    rw [e] at c0
    have hdd : ∀ k : Nat, (F.depth.isSome = true → 1 ≤ k) := fun k h => by rw [hd] at h; cases h
    simp only [T.ents, List.length_append] at hN
    rw [hnd.a] at d0
    rw [hnd.n] at d1
    cases sv with
    | none =>
      rw [hnd.b] at d4
      simp only [Option.isSome] at d4
      obtain ⟨W1, hW1⟩ : ∃ W1, W.alloc (.cells #[.int .i64 (ad q), .int .i64 q.length, .int .i64 x.k0, .int .i64 x.k1, .bool false, .int .i64 x.v] 64) = W1 := ⟨_, rfl⟩
      have hk1 : Kp n₀ W W1 := by rw [← hW1]; exact (Kp.refl n₀ W).alloc _ hT.n
      have hbx : W1.heap[W.heap.size]? = some (.cells #[.int .i64 (ad q), .int .i64 q.length, .int .i64 x.k0, .int .i64 x.k1, .bool false, .int .i64 x.v] 64 (0, 0)) := by rw [← hW1]; exact heap_alloc_new W _
      have hj1 : J pre W1 := by rw [← hW1]; exact hJ pre W _ none hj (World.grownBy_alloc W _ none) (by simp)
      have ih1 := (ihl (n - 1) x.k0 pre W1 (hT.below hk1.b) hl hj1 (by omega)).mono (R' := fun e W2 =>
          (e = .returned (.bool true) ∧ J (pre ++ tl.ents) W2 ∧ Kp n₀ W1 W2 ∧ W2.cell? ⟨W.heap.size, 3, none⟩ = some (.int .i64 x.k1)) ∨ (e = .returned (.bool false) ∧ ∃ q, q <+: tl.ents ∧ Jx (pre ++ q) W2))
        (fun e W2 h => h.elim (fun ⟨he, hj2, hk2⟩ => .inl ⟨he, hj2, hk2, blk_c (hk2.n _ _ hbx) 3⟩) .inr)
      have ih2 := fun W2 (hj2 : J (pre ++ tl.ents) W2) (hk2 : Kp n₀ W1 W2) => ihr (n - 1) x.k1 (pre ++ tl.ents) W2 ((hT.below hk1.b).below hk2.b) hr hj2 (by simp [T.own] at hN; simp; omega)
      rw [← hW1] at ih1
      clear ihl ihr hnd hx hl hr hY e
      refine callsIn_of_wp Try.func42 rfl h42 ?_ hro
      simp only [Try.ntmps42, List.size_toArray, List.length_cons, List.length_nil, Nat.reduceAdd, Nat.reduceSub, Array.replicate_succ, Array.replicate_zero, List.push_toArray, List.append_toArray, List.nil_append, List.cons_append]
      have HW1 := Aside0.mk hW1
      have HX := Aside0.mk hbx
      clear hW1 hbx
      gi_wp2
      refine ⟨fun _ h => (by cases h), ?_⟩
      gi_wp2_with (first
        | ((try refine ⟨hdd _, ?_⟩); gi_at_call 42; refine ih1.mono ?_; clear ih1; rintro e W2 (⟨rfl, hj2, hk2, e3⟩ | ⟨rfl, q', hq', hx2⟩))
        | ((try refine ⟨hdd _, ?_⟩); gi_at_call 42; refine (ih2 _ hj2 (HW1.out ▸ hk2)).mono ?_; rintro e W3 (⟨rfl, hj3, hk3⟩ | ⟨rfl, q', hq', hx3⟩)))
      · go_ret
        exact .inl ⟨rfl, by simpa [T.ents, T.own] using hj3, (hk1.trans (HW1.out ▸ hk2)).trans hk3⟩
      · go_ret
        obtain ⟨r, hr'⟩ := hq'
        exact .inr ⟨rfl, tl.ents ++ q', ⟨r, by simp [T.ents, T.own, ← hr']⟩, by simpa [List.append_assoc] using hx3⟩
      · go_ret
        obtain ⟨r, hr'⟩ := hq'
        exact .inr ⟨rfl, q', ⟨r ++ tr.ents, by simp [T.ents, T.own, ← hr']⟩, hx2⟩
    | some v =>
      rw [hnd.b] at d4
      simp only [Option.isSome] at d4
      rw [hnd.v v rfl] at d5
      obtain ⟨W1, hW1⟩ : ∃ W1, W.alloc (.cells #[.int .i64 (ad q), .int .i64 q.length, .int .i64 x.k0, .int .i64 x.k1, .bool true, .int .i64 v] 64) = W1 := ⟨_, rfl⟩
      have hk1 : Kp n₀ W W1 := by rw [← hW1]; exact (Kp.refl n₀ W).alloc _ hT.n
      have hbx : W1.heap[W.heap.size]? = some (.cells #[.int .i64 (ad q), .int .i64 q.length, .int .i64 x.k0, .int .i64 x.k1, .bool true, .int .i64 v] 64 (0, 0)) := by rw [← hW1]; exact heap_alloc_new W _
      have hj1 : J pre W1 := by rw [← hW1]; exact hJ pre W _ none hj (World.grownBy_alloc W _ none) (by simp)
      simp only [T.own, List.length_cons, List.length_nil] at hN
      have hy1 := (anyDepth_yield hd (n - 1) (hY 0 pre (q, v) W1 hj1 (by omega))).mono (R' := fun e W2 =>
          (e = .returned (.bool true) ∧ J (pre ++ [(q, v)]) W2 ∧ Kp n₀ W1 W2 ∧ W2.cell? ⟨W.heap.size, 2, none⟩ = some (.int .i64 x.k0)) ∨ (e = .returned (.bool false) ∧ Jx (pre ++ [(q, v)]) W2))
        (fun e W2 h => h.elim (fun ⟨he, hj2, hk2⟩ => .inl ⟨he, hj2, hk2, blk_c (hk2.n _ _ hbx) 2⟩) .inr)
      have ih1 := fun W2 (hj2 : J (pre ++ [(q, v)]) W2) (hk2 : Kp n₀ W1 W2) => (ihl (n - 1) x.k0 (pre ++ [(q, v)]) W2 ((hT.below hk1.b).below hk2.b) hl hj2 (by simp; omega)).mono (R' := fun e W3 =>
          (e = .returned (.bool true) ∧ J (pre ++ [(q, v)] ++ tl.ents) W3 ∧ Kp n₀ W1 W3 ∧ W3.cell? ⟨W.heap.size, 3, none⟩ = some (.int .i64 x.k1)) ∨ (e = .returned (.bool false) ∧ ∃ q', q' <+: tl.ents ∧ Jx (pre ++ [(q, v)] ++ q') W3))
        (fun e W3 h => h.elim (fun ⟨he, hj3, hk3⟩ => .inl ⟨he, hj3, hk2.trans hk3, blk_c ((hk2.trans hk3).n _ _ hbx) 3⟩) .inr)
      have ih2 := fun W3 (hj3 : J (pre ++ [(q, v)] ++ tl.ents) W3) (hk3 : Kp n₀ W1 W3) => ihr (n - 1) x.k1 (pre ++ [(q, v)] ++ tl.ents) W3 ((hT.below hk1.b).below hk3.b) hr hj3 (by simp; omega)
      obtain ⟨fn, tmps, assign, body, hy, hR⟩ := hy1
      simp only [encE] at hy
      rw [← hW1] at hy hR
      clear ihl ihr hnd hx hl hr hY e hN
      refine callsIn_of_wp Try.func42 rfl h42 ?_ hro
      simp only [Try.ntmps42, List.size_toArray, List.length_cons, List.length_nil, Nat.reduceAdd, Nat.reduceSub, Array.replicate_succ, Array.replicate_zero, List.push_toArray, List.append_toArray, List.nil_append, List.cons_append]
      have HW1 := Aside0.mk hW1
      have HX := Aside0.mk hbx
      clear hW1 hbx
      gi_wp2_with (first
        | ((try refine ⟨hdd _, ?_⟩); refine hR.mono ?_; clear hR hy; rintro e W2 (⟨rfl, hj2, hk2, e2⟩ | ⟨rfl, hx2⟩))
        | ((try refine ⟨hdd _, ?_⟩); gi_at_call 42; refine (ih1 _ hj2 (HW1.out ▸ hk2)).mono ?_; clear ih1; rintro e W3 (⟨rfl, hj3, hk3, e3⟩ | ⟨rfl, q', hq', hx3⟩))
        | ((try refine ⟨hdd _, ?_⟩); gi_at_call 42; refine (ih2 _ hj3 hk3).mono ?_; rintro e W4 (⟨rfl, hj4, hk4⟩ | ⟨rfl, q', hq', hx4⟩)))
      · go_ret
        exact .inl ⟨rfl, by simpa [T.ents, T.own] using hj4, (hk1.trans hk3).trans hk4⟩
      · go_ret
        obtain ⟨r, hr'⟩ := hq'
        exact .inr ⟨rfl, (q, v) :: tl.ents ++ q', ⟨r, by simp [T.ents, T.own, ← hr']⟩, by simpa [List.append_assoc] using hx4⟩
      · go_ret
        obtain ⟨r, hr'⟩ := hq'
        exact .inr ⟨rfl, (q, v) :: q', ⟨r ++ tr.ents, by simp [T.ents, T.own, ← hr']⟩, by simpa [List.append_assoc] using hx3⟩
      · go_ret
        exact .inr ⟨rfl, [(q, v)], ⟨tl.ents ++ tr.ents, by simp [T.ents, T.own]⟩, hx2⟩
end Go.Proofs.Ytjffikckddijmaa
namespace Go.Proofs.Ytjffikckddijmaa
open Go.RowKit Go.Shelf Go.Proofs.YtjffikckddijmaaW.PrintWords Go.Proofs.YtjffikckddijmaaW.PrintLast Go.Proofs.YtjffikckddijmaaW.PrintMore
attribute [local go_sem] Oper.semAt_some
set_option linter.unusedVariables false
set_option linter.unusedSimpArgs false
def eCells (e : K × Int) : List Value := [.int .i64 (ad e.1), .int .i64 e.1.length, .int .i64 e.2]
def rowsE (l : Es) : List Value := l.flatMap eCells
theorem rowsE_snoc (l : Es) (e : K × Int) : rowsE (l ++ [e]) = rowsE l ++ eCells e := by simp [rowsE]
theorem rowsE_length : ∀ l : Es, (rowsE l).length = l.length * 3
  | [] => rfl
  | e :: t => by have := rowsE_length t; simp only [rowsE, List.flatMap_cons, List.length_append, List.length_cons] at this ⊢; rw [this]; simp [eCells]; omega
/-- What the trie at p has: nothing, or the tree's entries. -/
def Has (n₀ : Nat) (W : World) (p : Option Addr) (L : Es) : Prop :=
  (p = none ∧ L = []) ∨ ∃ base g sl s t, p = some ⟨g, 0, none⟩ ∧ TN n₀ W base g sl s ∧ Holds s.ns s.root t ∧ s.used = (t.size : Int) ∧ L = t.ents
theorem Has.below {n₀ : Nat} {W W' : World} {p : Option Addr} {L : Es} (h : Has n₀ W p L) (hb : Below n₀ W W') : Has n₀ W' p L := by
  rcases h with h | ⟨base, g, sl, s, t, e, h, r⟩
  · exact .inl h
  · exact .inr ⟨base, g, sl, s, t, e, h.below hb, r⟩
theorem all_any (n : Nat) (p : Option Addr) (w : World) :
    CallsIn Fence.wide n Try.prog 24 #[.pointer p] w fun e w' => e = .returned (.func (.func 41) #[] #[.pointer (some ⟨w.heap.size, 0, none⟩)]) ∧ w' = w.alloc (.cells #[.pointer p] 24) := by
  refine callsIn_of_wp Try.func24 rfl trivial ?_ rfl
  simp only [Try.ntmps24, List.size_toArray, List.length_cons, List.length_nil, Nat.reduceAdd, Nat.reduceSub, Array.replicate_succ, Array.replicate_zero, List.push_toArray, List.append_toArray, List.nil_append, List.cons_append]
  gi_wp2
  go_ret
  exact ⟨rfl, rfl⟩
set_option maxHeartbeats 2000000 in
theorem all1_in (n l n₀ Bt B : Nat) (p : Option Addr) (L : Es) (J Jx : Es → World → Prop) (hJ : AbidesFrom B J)
    (hY : ∀ pre x W, J pre W → pre.length < L.length → YieldAt Fence.wide (n - 1) Try.prog l #[encE x] W fun e W' =>
      (e = .returned (.bool true) ∧ J (pre ++ [x]) W' ∧ Kp n₀ W W') ∨ (e = .returned (.bool false) ∧ Jx (pre ++ [x]) W'))
    (W : World) (hBt : W.cell? ⟨Bt, 0, none⟩ = some (.pointer p)) (hH : Has n₀ W p L) (h0 : J [] W) :
    CallsIn Fence.wide n Try.prog 41 #[.func (.yield l) #[] #[], .pointer (some ⟨Bt, 0, none⟩)] W fun e W' => (∃ v, e = .returned v) ∧
      ((∃ ys, ys = L ∧ J ys W') ∨ (∃ pre, pre <+: L ∧ Jx pre W')) := by
  rcases hH with ⟨rfl, rfl⟩ | ⟨base, g, sl, s, t, rfl, hT, hh, hu, rfl⟩
  · have he : CallsIn Fence.wide (n - 1) Try.prog 31 #[.pointer none] W fun e w' => e = .returned (.bool true) ∧ w' = W := callsIn_wide.2 (empty_nil W)
    refine callsIn_of_wp Try.func41 rfl trivial ?_ rfl
    simp only [Try.ntmps41, List.size_toArray, List.length_cons, List.length_nil, Nat.reduceAdd, Nat.reduceSub, Array.replicate_succ, Array.replicate_zero, List.push_toArray, List.append_toArray, List.nil_append, List.cons_append]
    gi_wp2_with (refine ⟨trivial, fun h => (by simp [Fence.wide] at h), ?_⟩; gi_at_call 31; refine he.mono ?_; clear he; rintro e W1 ⟨rfl, rfl⟩)
    go_end0
    exact ⟨⟨_, rfl⟩, .inl ⟨[], rfl, h0⟩⟩
  · by_cases hz : t = .nil
    · subst hz
      have he : CallsIn Fence.wide (n - 1) Try.prog 31 #[.pointer (some ⟨g, 0, none⟩)] W fun e w' => e = .returned (.bool true) ∧ w' = W := callsIn_wide.2 ((empty_any hT.t).mono fun e w' h => ⟨h.1.trans (by rw [hu]; rfl), h.2⟩)
      refine callsIn_of_wp Try.func41 rfl trivial ?_ rfl
      simp only [Try.ntmps41, List.size_toArray, List.length_cons, List.length_nil, Nat.reduceAdd, Nat.reduceSub, Array.replicate_succ, Array.replicate_zero, List.push_toArray, List.append_toArray, List.nil_append, List.cons_append]
      gi_wp2_with (refine ⟨trivial, fun h => (by simp [Fence.wide] at h), ?_⟩; gi_at_call 31; refine he.mono ?_; clear he; rintro e W1 ⟨rfl, rfl⟩)
      go_end0
      exact ⟨⟨_, rfl⟩, .inl ⟨[], rfl, h0⟩⟩
    · have hs : (s.used == 0) = false := by
        rw [hu]
        cases t with
        | nil => exact absurd rfl hz
        | nd => simp only [T.size, beq_eq_false_iff_ne]; omega
      have he : CallsIn Fence.wide (n - 1) Try.prog 31 #[.pointer (some ⟨g, 0, none⟩)] W fun e w' => e = .returned (.bool false) ∧ w' = W := callsIn_wide.2 ((empty_any hT.t).mono fun e w' h => ⟨h.1.trans (by rw [hs]), h.2⟩)
      have hdr : J [] W.drew := hJ [] W _ none h0 ⟨rfl, rfl, rfl, Nat.le_refl _, fun _ _ _ => rfl⟩ (by simp)
      have hp := (walkIn_t Fence.wide rfl trivial rfl l n₀ t.ents.length B base g sl s J Jx hJ (fun m pre x W hj hl => anyDepth_yield rfl m (hY pre x W hj hl)) t (n - 1) s.root [] W.drew (hT.below ((Below.refl _ _).drew)) hh hdr (by simp)).mono
        (R' := fun e W1 => ∃ b : Bool, e = .returned (.bool b) ∧ Aside0 ((∃ ys, ys = t.ents ∧ J ys W1) ∨ (∃ pre, pre <+: t.ents ∧ Jx pre W1)))
        (fun e W1 h => h.elim (fun ⟨he, hj, _⟩ => ⟨true, he, ⟨.inl ⟨_, rfl, by simpa using hj⟩⟩⟩) (fun ⟨he, q, hq, hx⟩ => ⟨false, he, ⟨.inr ⟨q, hq, by simpa using hx⟩⟩⟩))
      obtain ⟨c0, c1, c2, c3, c4⟩ := hT.t.cs
      clear hY hdr hJ h0 hs hu hh hT hz
      refine callsIn_of_wp Try.func41 rfl trivial ?_ rfl
      simp only [Try.ntmps41, List.size_toArray, List.length_cons, List.length_nil, Nat.reduceAdd, Nat.reduceSub, Array.replicate_succ, Array.replicate_zero, List.push_toArray, List.append_toArray, List.nil_append, List.cons_append]
      have hmix : Try.prog.follows .mixedOrders = true := by kernel_rfl
      gi_wp2_with (refine ⟨trivial, fun h => (by simp [Fence.wide] at h), ?_⟩; gi_at_call 31; refine he.mono ?_; clear he; rintro e W1 ⟨rfl, rfl⟩)
      gi_region_with_o (refine ⟨trivial, fun h => (by simp [Fence.wide] at h), ?_⟩; gi_at_call 42; refine hp.mono ?_; rintro e W2 ⟨b, rfl, hx⟩)
      all_goals gi_wp2
      all_goals go_end0
      all_goals exact ⟨⟨_, rfl⟩, hx.out⟩
theorem all_stops (n Bt n₀ : Nat) (p : Option Addr) (L : Es) (w : World) (hBt : Bt < w.heap.size) (hn₀ : n₀ ≤ w.heap.size) (hc : w.cell? ⟨Bt, 0, none⟩ = some (.pointer p)) (hH : Has n₀ w p L) :
    SeqStopsK Fence.wide n Try.prog 41 #[.pointer (some ⟨Bt, 0, none⟩)] (fun x : K × Int => #[encE x]) (Kp n₀) (fun ys => ys = L) (fun pre => pre <+: L) L.length w := fun l J Jx W hW hJ _ hY h0 =>
  all1_in n l n₀ Bt _ p L J Jx hJ hY W ((hW.cell (p := ⟨Bt, 0, none⟩) hBt).trans hc) (hH.below (hW.mono hn₀)) h0
end Go.Proofs.Ytjffikckddijmaa
namespace Go.Proofs.Ytjffikckddijmaa
open Go.RowKit Go.Shelf Go.Proofs.YtjffikckddijmaaW.PrintWords Go.Proofs.YtjffikckddijmaaW.PrintLast Go.Proofs.YtjffikckddijmaaW.PrintMore
attribute [local go_sem] Oper.semAt_some
set_option linter.unusedVariables false
set_option linter.unusedSimpArgs false
theorem Try.info33' : (Try.prog.info? 33).map (fun i => (i.zero, i.size, i.bytes)) = some (some (.agg #[.int .i64 0, .int .i64 0, .int .i64 0]), 3, 24) := by kernel_rfl
theorem blk_own {β : Type} (f : β → Nat) (c : β → Array Value) (t : TypeId) : Own (fun s W => W.heap[f s]? = some (.cells (c s) t (0, 0))) := fun s X Y row hs hg hrow =>
  (hg.block (f s) (Array.getElem?_eq_some_iff.1 hs).1 (fun e' => by obtain ⟨o, ho, hc⟩ := hrow (f s) e'.symm; rw [hs] at ho; cases ho; cases hc)).trans hs
set_option maxRecDepth 100000 in
set_option maxHeartbeats 4000000 in
theorem walk_calls (p : Option Addr) (L : Es) (hL : L.length ≤ 1000) (w : World) (hH : Has w.heap.size w p L) :
    Calls Try.prog 12 #[.pointer p] w fun e W' => ∃ v, e = .returned v ∧ W'.ownsRow w.heap.size 33 3 v L.length (rowsE L) ∧ Below w.heap.size w W' := by
  refine (callsIn_wide (n := 5)).1 ?_
  obtain ⟨i0, hi, hz0, hz1, hz2⟩ := info_parts Try.info33'
  refine callsIn_of_wp_marks Try.func12 rfl trivial ?_ rfl
  simp only [Try.ntmps12, List.size_toArray, List.length_cons, List.length_nil, Nat.reduceAdd, Nat.reduceSub, Array.replicate_succ, Array.replicate_zero, List.push_toArray, List.append_toArray, List.nil_append, List.cons_append]
  gi_wp2_with (refine ⟨trivial, ?_⟩; gi_at_call 24; refine (all_any _ _ _).mono ?_; rintro e w' ⟨rfl, rfl⟩)
  have bO := (Boxed.new w 22 (.slice none 0 0)).alloc (.cells #[.pointer p] 24)
  have bN := Boxed.new (w.alloc (.cells #[.slice none 0 0] 22)) 24 (.pointer p)
  rw [World.size_alloc] at bN
  have hB0 : Below w.heap.size w ((w.alloc (.cells #[.slice none 0 0] 22)).alloc (.cells #[.pointer p] 24)) := ((Below.refl _ w).alloc (Nat.le_refl _) _).alloc (by simp) _
  have hsz : ((w.alloc (.cells #[.slice none 0 0] 22)).alloc (.cells #[.pointer p] 24)).heap.size = w.heap.size + 2 := by simp
  obtain ⟨W0, hW0⟩ : ∃ W0, (w.alloc (.cells #[.slice none 0 0] 22)).alloc (.cells #[.pointer p] 24) = W0 := ⟨_, rfl⟩
  rw [hW0] at bO bN hB0 hsz ⊢
  clear hW0
  refine wpIn_rangeFunc_ownH rfl (by omega) (gf := 41) (lb := #[.pointer (some ⟨w.heap.size + 1, 0, none⟩)]) rfl trivial (enters_of Try.func41 (by kernel_rfl) rfl)
    (all_stops _ (w.heap.size + 1) w.heap.size p L W0 (by omega) (by omega) bN.cell (hH.below hB0)) Kp.trans (Kp.put (by omega)) (Below.refl _ _) (fun _ => rfl)
    (fun pre W => (∃ v, Boxed W w.heap.size 22 v ∧ W.ownsRow w.heap.size 33 3 v pre.length (rowsE pre) ∧ True) ∧ Below w.heap.size w W)
    (fun _ _ _ => False)
    (OwnFrom.and (Own.from (holdsRow_own w.heap.size w.heap.size 22 33 3 (fun pre : Es => pre.length) (fun pre => rowsE pre) (fun _ _ => True)) _) (ownFrom_below (Nat.le_refl _) (by omega)))
    (fun _ _ _ _ _ hs _ _ => hs)
    ⟨⟨_, bO, World.ownsRow_nil _ _ _ _, trivial⟩, hB0⟩
    (fun x a' W => ∃ Bx, w.heap.size < Bx ∧ W.heap[Bx]? = some (.cells (eCells x).toArray 33 (0, 0)) ∧ a' = { tmps := #[.pointer p, undef, .slice none 0 0, .pointer (some ⟨w.heap.size, 0, none⟩), .pointer (some ⟨Bx, 0, none⟩), .pointer p, .func (.func 41) #[] #[.pointer (some ⟨w.heap.size + 1, 0, none⟩)], encE x, undef, undef, undef, undef, undef], defers := [] })
    (fun x a' _ X Y row hs hg hr => by obtain ⟨Bx, h1, h2, h3⟩ := hs; exact ⟨Bx, h1, blk_own (fun _ : Unit => Bx) (fun _ => (eCells x).toArray) 33 () X Y row h2 hg (fun r e => (hr r e).2), h3⟩)
    ?assign ?body ?done ?stop
  case assign =>
    rintro l pre x W K ⟨⟨v, hv, hrow, -⟩, hB⟩ hK
    simp only [encE]
    gi_wp2
    exact hK _ _ ((KeepsOthers.alloc _ _).from _) ((Kp.refl _ W).alloc _ hB.size) ⟨⟨v, hv.alloc _, hrow.alloc _, trivial⟩, hB.alloc hB.size _⟩ ⟨W.heap.size, hv.lt, heap_alloc_new W _, rfl⟩
  case body =>
    rintro l pre x a' W hl ⟨r, hr⟩ ⟨⟨v, hv, hrow, -⟩, hB⟩ ⟨Bx, hBx, bX, rfl⟩ hlt
    have hc := hv.cell
    have e0 : W.cell? ⟨Bx, 0, none⟩ = some (.int .i64 (ad x.1)) := blk_c bX 0
    have e1 : W.cell? ⟨Bx, 1, none⟩ = some (.int .i64 x.1.length) := blk_c bX 1
    have e2 : W.cell? ⟨Bx, 2, none⟩ = some (.int .i64 x.2) := blk_c bX 2
    have hle : pre.length + 1 ≤ 1000 := by omega
    have HX := Aside0.mk bX
    clear bX hr
    simp only [encE]
    gi_wp2_with (gi_at_builtin; refine wpListIn_append_own _ rfl _ _ 22 rfl w.heap.size 33 i0 (.agg #[.int .i64 0, .int .i64 0, .int .i64 0]) 3 24 Try.underlying22 hi hz0 hz1 hz2 rfl (by decide) _ _ _ rfl (hrow.alloc _) ⟨W.heap.size, 0, none⟩ 1 1 (eCells x) rfl rfl (World.news_of_block (cs := (eCells x).toArray) (t := 33) (fr := (0, 0)) (heap_alloc_new W _)) (by simp [eCells, Value.oneCell']) (by unfold maxLen; omega) (by omega) (by have := hB.size; simp; omega) ?_; intro v' w1 hown' hgrow _; obtain ⟨g', cap', rfl⟩ := ownsRow_succ hown'; obtain ⟨hv1, hv2, hr2, hk2, hb2⟩ := hv.appended (by decide) hrow hB.size (Nat.le_refl _) hown' hgrow; have hc1 := hv1.cell; have hf1 := hv1.frozen)
    refine ⟨hk2.from _, ⟨hb2, ?_⟩, ⟨_, hv2, ?_, trivial⟩, hB.trans hb2⟩
    · intro k cs hk
      have hlt' := (Array.getElem?_eq_some_iff.1 hk).1
      have h1 : k ≠ w.heap.size := by
        rintro rfl
        rw [show W.heap[w.heap.size]? = _ from hv] at hk
        simp at hk
      have h2 : some k ≠ v.ownBlock := by
        intro e
        obtain ⟨cells, hc'⟩ := own_typed hrow k e.symm
        rw [hk] at hc'
        simp at hc'
      exact (Below.heap_setCell _ _ _ _ h1).trans ((hgrow.block k (by simp; omega) h2).trans ((Below.heap_alloc _ _ _ hlt').trans hk))
    · rw [rowsE_snoc]
      simpa using hr2
  case done =>
    rintro D ys W hD rfl ⟨⟨v, hv, hrow, -⟩, hB⟩ hK
    have hc := hv.cell
    gi_wp2
    refine ⟨by simp, .inl ⟨_, _, rfl, run_takeDeferred hK, ?_⟩⟩
    exact ⟨_, results_tmp rfl _ _ _, v, rfl, ownsRow_putObj hrow _ hK rfl, hB.trans (belowK_b (w := w) (Nat.le_refl _) W D _ _ (by omega) hK rfl rfl)⟩
  case stop =>
    rintro D c pre W _ _ h _
    exact h.elim
#print axioms walk_calls
end Go.Proofs.Ytjffikckddijmaa
