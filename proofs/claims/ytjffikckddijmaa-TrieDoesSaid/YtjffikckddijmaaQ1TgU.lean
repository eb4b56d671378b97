/-
  Chapter 7: Put: the ways that change nothing.
-/
import Derived.Test.YtjffikckddijmaaQ1TgR
namespace Go.Proofs.Ytjffikckddijmaa
open Go.RowKit Go.Proofs.YtjffikckddijmaaW.PrintWords Go.Proofs.YtjffikckddijmaaW.PrintLast Go.Proofs.YtjffikckddijmaaW.PrintMore
open All All.BM
attribute [local go_sem] max2_int min2_int max_two min_two max_three min_three max_four min_four
set_option linter.unusedVariables false
set_option linter.unusedSimpArgs false
attribute [local go_sem high] eqA31 eqA33
theorem may_no {a n : Int} (h : ¬ isPre a n) : bits_May.f a n = some false := by rw [f_May]; simp [h]
theorem may_yes {p : K} (h : p.length ≤ 32) : bits_May.f (ad p : Int) (p.length : Int) = some true := by rw [f_May]; simp [key_isPre h]
set_option maxHeartbeats 2000000 in
set_option maxRecDepth 100000 in
theorem put_bad (p0 : Option Addr) (a n v : Int) (h : ¬ isPre a n) (w : World) : Calls Try.prog 14 #[.pointer p0, .agg #[.int .i64 a, .int .i64 n], .int .i64 v] w fun e w' => e = .returned (.int .i64 1) ∧ Below w.heap.size w w' := by
  have HM := Aside0.mk (may_no h)
  clear h
  go_enter Try.func14, Try.ntmps14
  go_wp2_with (first | (go_at_call 18; refine (bits_May.calls _ _ _ _ HM.out).mono ?_; rintro e w1 ⟨rfl, hb⟩))
  go_ret
  exact ⟨rfl, below_step ((Below.refl _ _).alloc (Nat.le_refl _) _) hb⟩
theorem seek_p {w : World} {base g : Nat} {sl : Value} {s : St} (h : TM w base g sl s) {t : T} {fl : List Nat} (hR : Rep0 s t fl) {p : K} (hp : p.length ≤ 32) :
    Calls Try.prog 25 #[.pointer (some ⟨g, 0, none⟩), .agg #[.int .i64 (ad p), .int .i64 p.length]] w fun e w' =>
      e = .returned (.tuple #[.int .i64 (parOf (plc p t)), .int .i64 (sideOf (plc p t)), .int .i64 (rootOf (T.sub p t))]) ∧ Below w.heap.size w w' := by
  have := seek_any h hR.holds hR.short hp
  rw [seek_top] at this
  exact this
set_option maxHeartbeats 2000000 in
set_option maxRecDepth 100000 in
theorem put_room {w : World} {base g : Nat} {sl : Value} {s : St} (h : TM w base g sl s) (p : K) (hp : p.length ≤ 32) (v : Int) (hr : s.room = 0) : Calls Try.prog 14 #[.pointer (some ⟨g, 0, none⟩), .agg #[.int .i64 (ad p), .int .i64 p.length], .int .i64 v] w fun e w' => e = .returned (.int .i64 7) ∧ Below w.heap.size w w' := by
  have HM := Aside0.mk (may_yes hp)
  have H := Aside0.mk h
  obtain ⟨c0, c1, c2, c3, c4⟩ := h.cs
  rw [hr] at c4
  have hg := h.lt
  clear h hr
  go_enter Try.func14, Try.ntmps14
  go_wp2_with (first | (go_at_call 18; refine (bits_May.calls _ _ _ _ HM.out).mono ?_; rintro e w1 ⟨rfl, hb⟩; have c4' : w1.cell? ⟨g, 4, none⟩ = some (.int .i64 0) := pw_cell_below hb (by go_simp)))
  go_ret
  exact ⟨rfl, below_step ((Below.refl _ _).alloc (Nat.le_refl _) _) hb⟩
set_option maxHeartbeats 2000000 in
set_option maxRecDepth 100000 in
theorem put_A {w : World} {base g : Nat} {sl : Value} {s : St} (h : TM w base g sl s) {t : T} {fl : List Nat} (hR : Rep0 s t fl) (p : K) (hp : p.length ≤ 32) (v : Int) (hr : (s.room == 0) = false)
    {m : Nat} {sv : Option Int} {l r : T} {x : Nd} (hs : T.sub p t = .nd m p sv l r) (hx : s.ns[m]? = some x) :
    Calls Try.prog 14 #[.pointer (some ⟨g, 0, none⟩), .agg #[.int .i64 (ad p), .int .i64 p.length], .int .i64 v] w (Did w base g sl (.int .i64 0) { s with ns := s.ns.set m { x with b := true, v := v } }) := by
  have HM := Aside0.mk (may_yes hp)
  have H := Aside0.mk h
  have HR := Aside0.mk hR
  have HX := Aside0.mk hx
  obtain ⟨x', hx', hnd, -, -, -⟩ := hR.subNode hs
  rw [hx] at hx'; cases hx'
  have hnd := Aside0.mk hnd
  have hat : rootOf (T.sub p t) = (m : Int) := by rw [hs]; rfl
  have hg := h.lt
  clear h hR hs hx
  have HAT := Aside0.mk hat
  clear hat
  go_enter Try.func14, Try.ntmps14
  go_wp2_with (first
    | (go_at_call 18; refine (bits_May.calls _ _ _ _ HM.out).mono ?_; rintro e w1 ⟨rfl, hb⟩; have hB1 : Below w.heap.size w w1 := below_step ((Below.refl _ _).alloc (Nat.le_refl _) _) hb; have q0 : w1.cell? ⟨w.heap.size, 0, none⟩ = some (.int .i64 (ad p)) := pw_cell_below hb (by go_simp); have q1 : w1.cell? ⟨w.heap.size, 1, none⟩ = some (.int .i64 p.length) := pw_cell_below hb (by go_simp); have H1 := H.out.below hB1; obtain ⟨c0, c1, c2, c3, c4⟩ := H1.cs; have H1 := Aside0.mk H1; have HB1 := Aside0.mk hB1; clear hb hB1)
    | (go_at_call 25; refine (seek_p H1.out HR.out hp).mono ?_; rintro e w2 ⟨rfl, hb⟩; have p0 : w2.cell? ⟨w.heap.size, 0, none⟩ = some (.int .i64 (ad p)) := pw_cell_below hb q0; have p1 : w2.cell? ⟨w.heap.size, 1, none⟩ = some (.int .i64 p.length) := pw_cell_below hb q1; have H2 := H1.out.below hb; clear q0 q1 c0 c1 c2 c3 c4; obtain ⟨c0, c1, c2, c3, c4⟩ := H2.cs; have H2 := Aside0.mk H2; have HB2 := Aside0.mk (below_step HB1.out hb); clear hb; rw [HAT.out]))
  obtain ⟨ab, cap, e, hba, hab, hag, hi, d0, d1, d2, d3, d4, d5, hfz⟩ := H2.out.node HX.out
  rw [hnd.out.a] at d0
  rw [hnd.out.n] at d1
  have hcap := H2.out.few
  subst e
  have hm1 : ((m : Int) != -1) = true := by rw [bne_iff_ne]; omega
  have hga : g ≠ ab := fun e => hag e.symm
  have hg2 := H2.out.lt
  have hgp := World.block_lt_of_cell? w2 _ p0
  go_quiet (fail)
  go_wp2
  go_region_held3 (fun w' => w'.cell? ⟨g, 0, none⟩ = some (.slice (some ⟨ab, 0, none⟩) s.ns.length cap)) (go_keep) (fail)
  go_wp2
  go_ret
  have hm' : m < s.ns.length := hi
  have T3 := ((H2.out.alloc (.cells #[.int .i64 (ad p), .int .i64 p.length, .int .i64 (-1), .int .i64 (-1), .bool true, .int .i64 v] 64)).drewN (nq + 1)).setNode (j := 4) (y := { x with b := true }) (u := .bool true) HX.out (by omega) rfl
  have T4 := TM.setNext (j := 5) (z := { x with b := true, v := v }) (u := .int .i64 v) T3 hm' (by omega) rfl
  have F4 := ((((Fr.of_below HB2.out g (some ab)).alloc (.cells #[.int .i64 (ad p), .int .i64 p.length, .int .i64 (-1), .int .i64 (-1), .bool true, .int .i64 v] 64)).drewN (nq + 1)).set (p := ⟨ab, m * 6 + 4, none⟩) (.inr (.inl rfl)) (.bool true)).set (p := ⟨ab, m * 6 + 5, none⟩) (.inr (.inl rfl)) (.int .i64 v)
  exact ⟨_, rfl, T4, F4, .inl rfl⟩
end Go.Proofs.Ytjffikckddijmaa
namespace Go.Proofs.Ytjffikckddijmaa
open Go.RowKit Go.Proofs.YtjffikckddijmaaW.PrintWords Go.Proofs.YtjffikckddijmaaW.PrintLast Go.Proofs.YtjffikckddijmaaW.PrintMore
open All All.BM
attribute [local go_sem] max2_int min2_int max_two min_two max_three min_three max_four min_four
set_option linter.unusedVariables false
set_option linter.unusedSimpArgs false
attribute [local go_sem high] eqA31 eqA33
theorem node_any {w : World} {base g : Nat} {sl : Value} {s : St} (h : TM w base g sl s) {U fl : List Nat} (hp : Pool s U fl) (hU : U.length < 1000) (x : Nd) (hu0 : 0 ≤ s.used) (hu1 : s.used ≤ 1000) :
    Calls Try.prog 27 #[.pointer (some ⟨g, 0, none⟩), .agg #[.int .i64 x.a, .int .i64 x.n, .int .i64 x.k0, .int .i64 x.k1, .bool x.b, .int .i64 x.v]] w (Did w base g sl (.int .i64 (s.add x).1) (s.add x).2) := by
  cases fl with
  | nil =>
    have hf : s.free = -1 := hp.chain
    have hl := hp.len
    simp at hl
    unfold St.add
    rw [if_pos hf]
    exact node_append h x hf (by omega) hu0 hu1
  | cons f t =>
    obtain ⟨e, y, hy, _⟩ := hp.chain
    have hk0 : (s.ns.getD f Nd.zero).k0 = y.k0 := by rw [List.getD_eq_getElem?_getD, hy]; rfl
    unfold St.add
    rw [if_neg (by omega), e]
    simp only [Int.toNat_natCast]
    rw [hk0]
    exact node_reuse h x e hy hu0 hu1
theorem plc_any {w : World} {base g : Nat} {sl : Value} {s : St} (h : TM w base g sl s) {pl : Option (Nat × Bool)} (hi : ∀ i b, pl = some (i, b) → i < s.ns.length) : ∃ b o, Plc w base g sl s pl (sideOf pl) b o := by
  rcases pl with _ | ⟨i, b⟩
  · exact ⟨g, 1, plc_root h _⟩
  · obtain ⟨ab, cap, _, hp⟩ := plc_kid h (hi i b rfl) b
    exact ⟨ab, _, hp⟩
theorem Rep0.plcLt {s : St} {t : T} {fl : List Nat} (h : Rep0 s t fl) {p : K} {i : Nat} {b : Bool} (hp : plc p t = some (i, b)) : i < s.ns.length := h.pool.lt i (plc_mem h.nodup hp).1
theorem St.add_len (s : St) (x : Nd) : s.ns.length ≤ (s.add x).2.ns.length := by
  unfold St.add
  split <;> simp
theorem put_end {w W w3 : World} {base g : Nat} {sl sl3 : Value} {s3 : St} {pl : Option (Nat × Bool)} {side : Int} {b o : Nat} {v : Int} (P : Plc w3 base g sl3 s3 pl side b o) (T3 : TM w3 base g sl3 s3) (F3 : Fr W w3 g sl.ownBlock)
    (A3 : sl3.ownBlock = sl.ownBlock ∨ ∃ k, sl3.ownBlock = some k ∧ W.heap.size ≤ k) (F : Fr w W g sl.ownBlock) : Did w base g sl (.int .i64 0) (s3.put pl v) (.returned (.int .i64 0)) (w3.setCell ⟨b, o, none⟩ (.int .i64 v)) := by
  have A : sl3.ownBlock = sl.ownBlock ∨ ∃ k, sl3.ownBlock = some k ∧ w.heap.size ≤ k := A3.elim .inl fun ⟨k, e, hk⟩ => .inr ⟨k, e, Nat.le_trans F.size hk⟩
  refine ⟨sl3, rfl, P.set _ _ T3, Fr.set (F.trans F3 (.inl rfl)) ?_ _, A⟩
  rcases P.fr with h | h
  · exact .inl h
  · rcases A with e | ⟨k, e, hk⟩
    · exact .inr (.inl (h.trans e))
    · refine .inr (.inr ?_)
      rw [e] at h
      injection h with h
      show w.heap.size ≤ b
      omega
set_option maxHeartbeats 2000000 in
set_option maxRecDepth 100000 in
theorem put_B0 {w : World} {base g : Nat} {sl : Value} {s : St} (h : TM w base g sl s) {t : T} {fl : List Nat} (hR : Rep0 s t fl) (p : K) (hp : p.length ≤ 32) (v : Int) (hr : (s.room == 0) = false)
    (hs : T.sub p t = .nil) (hu0 : 0 ≤ s.used) (hu1 : s.used ≤ 1000) (hfull : s.room < s.used + 1) :
    Calls Try.prog 14 #[.pointer (some ⟨g, 0, none⟩), .agg #[.int .i64 (ad p), .int .i64 p.length], .int .i64 v] w (Did w base g sl (.int .i64 7) s) := by
  have HM := Aside0.mk (may_yes hp)
  have H := Aside0.mk h
  have HR := Aside0.mk hR
  have hat : rootOf (T.sub p t) = -1 := by rw [hs]; rfl
  have hg := h.lt
  have hwr : IntKind.i64.wrap (s.used + 1) = s.used + 1 := IntWalk.i64_in _ (by omega)
  have hd1 : decide (s.room < s.used + 1) = true := by simpa using hfull
  clear h hR hs hfull
  have HAT := Aside0.mk hat
  clear hat
  go_enter Try.func14, Try.ntmps14
  go_wp2_with (first
    | (go_at_call 18; refine (bits_May.calls _ _ _ _ HM.out).mono ?_; rintro e w1 ⟨rfl, hb⟩; have hB1 : Below w.heap.size w w1 := below_step ((Below.refl _ _).alloc (Nat.le_refl _) _) hb; have q0 : w1.cell? ⟨w.heap.size, 0, none⟩ = some (.int .i64 (ad p)) := pw_cell_below hb (by go_simp); have q1 : w1.cell? ⟨w.heap.size, 1, none⟩ = some (.int .i64 p.length) := pw_cell_below hb (by go_simp); have H1 := H.out.below hB1; obtain ⟨c0, c1, c2, c3, c4⟩ := H1.cs; have H1 := Aside0.mk H1; have HB1 := Aside0.mk hB1; clear hb hB1)
    | (go_at_call 25; refine (seek_p H1.out HR.out hp).mono ?_; rintro e w2 ⟨rfl, hb⟩; have p0 : w2.cell? ⟨w.heap.size, 0, none⟩ = some (.int .i64 (ad p)) := pw_cell_below hb q0; have p1 : w2.cell? ⟨w.heap.size, 1, none⟩ = some (.int .i64 p.length) := pw_cell_below hb q1; have H2 := H1.out.below hb; clear q0 q1 c0 c1 c2 c3 c4; obtain ⟨c0, c1, c2, c3, c4⟩ := H2.cs; have H2 := Aside0.mk H2; have HB2 := Aside0.mk (below_step HB1.out hb); clear hb; rw [HAT.out]))
  have hg2 := H2.out.lt
  have hgp := World.block_lt_of_cell? w2 _ p0
  go_quiet (fail)
  go_wp2
  go_quiet (fail)
  go_wp2
  go_quiet (fail)
  go_wp2
  go_ret
  exact ⟨_, rfl, by repeat (first | exact H2.out | apply TM.drewN | apply TM.alloc), by repeat (first | exact Fr.of_below HB2.out g _ | apply Fr.drewN | apply Fr.alloc), .inl rfl⟩
set_option maxHeartbeats 2000000 in
set_option maxRecDepth 100000 in
theorem put_B1 {w : World} {base g : Nat} {sl : Value} {s : St} (h : TM w base g sl s) {t : T} {fl : List Nat} (hR : Rep0 s t fl) (p : K) (hp : p.length ≤ 32) (v : Int) (hr : (s.room == 0) = false)
    (hs : T.sub p t = .nil) (hu0 : 0 ≤ s.used) (hu1 : s.used < 1000) (hfull : ¬ s.room < s.used + 1) :
    Calls Try.prog 14 #[.pointer (some ⟨g, 0, none⟩), .agg #[.int .i64 (ad p), .int .i64 p.length], .int .i64 v] w (Did w base g sl (.int .i64 0) ((s.add (own p v)).2.put (plc p t) (s.add (own p v)).1)) := by
  have HM := Aside0.mk (may_yes hp)
  have H := Aside0.mk h
  have HR := Aside0.mk hR
  have hat : rootOf (T.sub p t) = -1 := by rw [hs]; rfl
  have hg := h.lt
  have hwr : IntKind.i64.wrap (s.used + 1) = s.used + 1 := IntWalk.i64_in _ (by omega)
  have hd1 : decide (s.room < s.used + 1) = false := by simpa using hfull
  have hUl : t.idx.length < 1000 := by rw [T.size_idx]; have := hR.used; omega
  clear h hR hs hfull
  have HAT := Aside0.mk hat
  clear hat
  go_enter Try.func14, Try.ntmps14
  go_wp2_with (first
    | (go_at_call 18; refine (bits_May.calls _ _ _ _ HM.out).mono ?_; rintro e w1 ⟨rfl, hb⟩; have hB1 : Below w.heap.size w w1 := below_step ((Below.refl _ _).alloc (Nat.le_refl _) _) hb; have q0 : w1.cell? ⟨w.heap.size, 0, none⟩ = some (.int .i64 (ad p)) := pw_cell_below hb (by go_simp); have q1 : w1.cell? ⟨w.heap.size, 1, none⟩ = some (.int .i64 p.length) := pw_cell_below hb (by go_simp); have H1 := H.out.below hB1; obtain ⟨c0, c1, c2, c3, c4⟩ := H1.cs; have H1 := Aside0.mk H1; have HB1 := Aside0.mk hB1; clear hb hB1)
    | (go_at_call 25; refine (seek_p H1.out HR.out hp).mono ?_; rintro e w2 ⟨rfl, hb⟩; have p0 : w2.cell? ⟨w.heap.size, 0, none⟩ = some (.int .i64 (ad p)) := pw_cell_below hb q0; have p1 : w2.cell? ⟨w.heap.size, 1, none⟩ = some (.int .i64 p.length) := pw_cell_below hb q1; have H2 := H1.out.below hb; clear q0 q1 c0 c1 c2 c3 c4; obtain ⟨c0, c1, c2, c3, c4⟩ := H2.cs; have H2 := Aside0.mk H2; have HB2 := Aside0.mk (below_step HB1.out hb); clear hb; rw [HAT.out]))
  have hg2 := H2.out.lt
  have hgp := World.block_lt_of_cell? w2 _ p0
  go_quiet (fail)
  go_wp2
  go_quiet (fail)
  go_wp2
  go_quiet (fail)
  have hu1' : s.used ≤ 1000 := by omega
  have HPL := Aside0.mk (fun i b (e : plc p t = some (i, b)) => Nat.lt_of_lt_of_le (HR.out.plcLt e) (s.add_len (own p v)))
  go_wp2_with (first
    | (go_at_call 27; refine (node_any (base := base) (sl := sl) (s := s) ?hT HR.out.pool hUl ⟨(ad p : Int), (p.length : Int), -1, -1, true, v⟩ hu0 hu1').mono ?_; (case hT => repeat (first | exact H2.out | apply TM.drewN | apply TM.alloc)); rintro e w3 ⟨sl3, rfl, T3, F3, A3⟩; obtain ⟨bb, oo, P3⟩ := plc_any T3 HPL.out; obtain ⟨kk, pc⟩ := P3.cell; have pf := P3.free; have d0 := T3.cs.1; have T3 := Aside0.mk T3; have F3 := Aside0.mk F3; have P3 := Aside0.mk P3; have A3 := Aside0.mk A3)
    | (go_at_call 28; refine (P3.out.call _ d0).mono ?_; rintro e w4 ⟨rfl, rfl⟩))
  go_ret
  refine put_end P3.out T3.out F3.out A3.out ?_
  repeat (first | exact Fr.of_below HB2.out g _ | apply Fr.drewN | apply Fr.alloc)
end Go.Proofs.Ytjffikckddijmaa
