/- Contracts of Go functions that this seat comes to, each with a plain function that tells its answers; conditions: those that each contract names. Written by a program of this session (wip/print) over the print words. -/
import Derived.Test.YtpaoofkahhhjaaaDoorQ5Allx0
import Derived.Test.YtpaoofkahhhjaaaDoorQ5Allx6
import Derived.Test.YtpaoofkahhhjaaaDoorQ5Allx7
import Derived.Test.YtpaoofkahhhjaaaDoorQ5Allx15
namespace Go.Proofs.YtpaoofkahhhjaaaDoor.All
open Go.RowKit Go.Proofs.YtpaoofkahhhjaaaDoorW.PrintWords Go.Proofs.YtpaoofkahhhjaaaDoorW.PrintLast Go.Proofs.YtpaoofkahhhjaaaDoorW.PrintMore
attribute [local go_sem] max2_int min2_int max_two min_two max_three min_three max_four min_four
set_option linter.unusedVariables false
set_option linter.unusedSimpArgs false
theorem frame_unless.calls (b : Bool) (e0 r : Int) (w : World) (hr : (if b = true then e0 else 0) = r) :
  Calls Tryd.prog 22 #[.bool b, .int .i64 e0] w fun e w' => e = .returned (.int .i64 r) ∧ Drawn0 w w' := by
 subst hr
 cases b
 ·go_enter Tryd.func22, Tryd.ntmps22
  go_wp2
  go_ret
  exact ⟨rfl, Drawn0.refl w⟩
 ·go_enter Tryd.func22, Tryd.ntmps22
  go_wp2
  go_ret
  exact ⟨rfl, Drawn0.refl w⟩
theorem frame_size.calls (g : Nat) (n : Int) (w : World) (h0 : 0 ≤ n) (h1 : n ≤ 255) (hn : w.cell? ⟨g, 0, none⟩ = some (.int .i64 n)) :
  Calls Tryd.prog 20 #[.pointer (some ⟨g, 0, none⟩)] w fun e w' => e = .returned (.int .i64 (2 + n + n % 2 + 2)) ∧ Drawn0 w w' := by
 have hr : Int.tmod n 2 = n % 2 := Int.tmod_eq_emod_of_nonneg h0
 go_enter Tryd.func20, Tryd.ntmps20
 go_wp2
 go_ret
 exact ⟨rfl, Drawn0.refl w⟩
set_option maxHeartbeats 8000000 in
set_option maxRecDepth 100000 in
theorem frame_c2.calls (gB : Nat) (A : Option Addr) (l : List Int) (c : Nat) (r : Int) (w : World) (hb : w.cell? ⟨gB, 0, none⟩ = some (.slice A l.length c)) (hl : l.length ≤ 3000000000) (hr_ : (if decide ((l.length : Int) < 4) = true then 3 else 0) = r) :
  Calls Tryd.prog 21 #[.pointer (some ⟨gB, 0, none⟩)] w fun e w' => e = .returned (.int .i64 r) ∧ Drawn0 w w' := by
 obtain ⟨b, hb_⟩ : ∃ b : Bool, decide ((l.length : Int) < 4) = b := ⟨_, rfl⟩
 rw [hb_] at hr_
 have hr := Aside0.mk hr_
 clear hr_
 go_enter Tryd.func21, Tryd.ntmps21
 go_wp2_with (first | ((with_reducible refine qqr (f := 22) rfl ?_); refine goesL_ (some 5) rfl rfl Tryd.func22 (by kernel_rfl) rfl #[.bool b, .int .i64 3] rfl (by (try simp only [List.map_toArray, List.map_cons, List.map_nil]); first | done | rfl) ?_; (with_reducible refine (frame_unless.calls b 3 r _ hr.out).mono ?_); rintro e w2 ⟨rfl, hd⟩; refine ⟨_, rfl, ?_⟩))
 go_ret
 exact ⟨rfl, hd⟩
set_option maxHeartbeats 8000000 in
set_option maxRecDepth 100000 in
theorem frame_c3.calls (gB : Nat) (A : Option Addr) (l : List Int) (c : Nat) (gN : Nat) (n : Int) (r : Int) (w : World) (hb : w.cell? ⟨gB, 0, none⟩ = some (.slice A l.length c)) (hl : l.length ≤ 3000000000) (hne : gB ≠ gN) (hN : w.heap[gN]? = some (.cells #[.int .i64 n] 3 (0, 0))) (hC : Kd.C (Kd.int .u8) w A l.length l) (h4 : 2 ≤ l.length) (hby : ∀ i : Int, 0 ≤ rd l i ∧ rd l i ≤ 255) (hx : ∀ ad, A = some ad → ad.block ≠ gN) (hr_ : (if (rd l 0 != 197) = true then 2 else 0) = r) :
  Calls Tryd.prog 23 #[.pointer (some ⟨gB, 0, none⟩), .pointer (some ⟨gN, 0, none⟩)] w fun e w' => e = .returned (.int .i64 r) ∧ Drawn0 (w.setCell ⟨gN, 0, none⟩ (.int .i64 (rd l 1))) w' := by
 obtain ⟨b, hb_⟩ : ∃ b : Bool, (rd l 0 != 197) = b := ⟨_, rfl⟩
 rw [hb_] at hr_
 have hr := Aside0.mk hr_
 clear hr_
 obtain ⟨ad, rfl, hx0⟩ := Kd.at_int hC 0 (by omega) (by omega)
 obtain ⟨ad1, e1, hx1⟩ := Kd.at_int hC 1 (by omega) (by omega)
 obtain rfl : ad = ad1 := (by injection e1)
 clear e1 hC
 (try simp only [show (0 : Int).toNat = 0 from rfl, Nat.reduceMul, Nat.reduceEqDiff, Go.Addr.add, ↓reduceIte, Nat.zero_mul, Nat.add_zero, Nat.mul_one] at hx0)
 (try simp only [show (1 : Int).toNat = 1 from rfl, Nat.reduceMul, Nat.reduceEqDiff, Go.Addr.add, ↓reduceIte] at hx1)
 have hr0 := hby 0
 have hr1 := hby 1
 obtain ⟨r00, r01⟩ := hr0
 obtain ⟨r10, r11⟩ := hr1
 clear hby
 have hxn := hx ad rfl
 clear hx
 have hn : w.cell? ⟨gN, 0, none⟩ = some (.int .i64 n) := (qql hN 0).trans rfl
 have hfn := qqe hN 0
 go_enter Tryd.func23, Tryd.ntmps23
 go_wp2_with (first | ((with_reducible refine gate_store (t := 3) (p := 1) rfl ?_); refine store_event (t := 3) (p := 1) (v := ?vo) (w1 := w.setCell ⟨gN, 0, none⟩ (.int .i64 (rd l 1))) ?hg ?ho ?hn ?hr ?_; (case ho => rfl); (case hg => rfl); (case hn => rfl); (case hr => first | (go_simp; done) | (go_simp; rfl)); intro w5 hw; have hb5 : w5.cell? ⟨gB, 0, none⟩ = some (.slice (some ad) l.length c) := (by rw [hw]; exact (qqm hne _).trans hb); have hx5 : w5.cell? ad = some (.int .u8 (rd l 0)) := (by rw [hw]; exact (qqm hxn _).trans hx0); have HW := Aside0.mk hw; clear hw hb hx0 hx1 hn hfn hN) | ((with_reducible refine qqr (f := 22) rfl ?_); refine goesL_ (some 11) rfl rfl Tryd.func22 (by kernel_rfl) rfl #[.bool b, .int .i64 2] rfl (by (try simp only [List.map_toArray, List.map_cons, List.map_nil]); first | done | rfl) ?_; (with_reducible refine (frame_unless.calls b 2 r _ hr.out).mono ?_); rintro e w2 ⟨rfl, hd⟩; refine ⟨_, rfl, ?_⟩))
 go_ret
 exact ⟨rfl, by rw [← HW.out]; exact hd⟩
set_option maxHeartbeats 8000000 in
set_option maxRecDepth 100000 in
theorem frame_c4.calls (gB : Nat) (A : Option Addr) (l : List Int) (c : Nat) (gN gS : Nat) (n : Int) (r : Int) (w : World) (hb : w.cell? ⟨gB, 0, none⟩ = some (.slice A l.length c)) (hl : l.length ≤ 3000000000) (h0 : 0 ≤ n) (h1 : n ≤ 255) (hn : w.cell? ⟨gN, 0, none⟩ = some (.int .i64 n)) (hs : w.cell? ⟨gS, 0, none⟩ = some (.func (.func 20) #[] #[.pointer (some ⟨gN, 0, none⟩)])) (hr_ : (if decide ((l.length : Int) < 2 + n + n % 2 + 2) = true then 3 else 0) = r) :
  Calls Tryd.prog 24 #[.pointer (some ⟨gB, 0, none⟩), .pointer (some ⟨gS, 0, none⟩)] w fun e w' => e = .returned (.int .i64 r) ∧ Drawn0 w w' := by
 obtain ⟨b, hb_⟩ : ∃ b : Bool, decide ((l.length : Int) < 2 + n + n % 2 + 2) = b := ⟨_, rfl⟩
 rw [hb_] at hr_
 have hr := Aside0.mk hr_
 clear hr_
 go_enter Tryd.func24, Tryd.ntmps24
 go_wp2
 go_quiet (first | (go_at_call 20; (with_reducible refine (frame_size.calls gN n _ h0 h1 (by first | (with_reducible exact hn) | (rw [World.cell?_drewN]; exact hn) | (go_simp; done) | exact hn)).mono ?_); rintro e w' ⟨rfl, ⟨nd, rfl⟩⟩; exact ⟨rfl, _, World.drewN_drewN ..⟩) | (go_at_call 22; (with_reducible refine (frame_unless.calls b 3 r _ hr.out).mono ?_); rintro e w' ⟨rfl, ⟨nd, rfl⟩⟩; exact ⟨rfl, _, World.drewN_drewN ..⟩))
 go_wp2
 go_ret
 exact ⟨rfl, by first | exact Drawn0.refl w | exact ⟨_, rfl⟩ | exact ⟨⟨_, rfl⟩⟩⟩
set_option maxHeartbeats 8000000 in
set_option maxRecDepth 100000 in
theorem frame_c5.calls (gB : Nat) (A : Option Addr) (l : List Int) (c : Nat) (gN gS : Nat) (n : Int) (r : Int) (w : World) (hb : w.cell? ⟨gB, 0, none⟩ = some (.slice A l.length c)) (hl : l.length ≤ 3000000000) (h0 : 0 ≤ n) (h1 : n ≤ 255) (hn : w.cell? ⟨gN, 0, none⟩ = some (.int .i64 n)) (hs : w.cell? ⟨gS, 0, none⟩ = some (.func (.func 20) #[] #[.pointer (some ⟨gN, 0, none⟩)])) (hr_ : (if decide (2 + n + n % 2 + 2 < (l.length : Int)) = true then 2 else 0) = r) :
  Calls Tryd.prog 25 #[.pointer (some ⟨gB, 0, none⟩), .pointer (some ⟨gS, 0, none⟩)] w fun e w' => e = .returned (.int .i64 r) ∧ Drawn0 w w' := by
 obtain ⟨b, hb_⟩ : ∃ b : Bool, decide (2 + n + n % 2 + 2 < (l.length : Int)) = b := ⟨_, rfl⟩
 rw [hb_] at hr_
 have hr := Aside0.mk hr_
 clear hr_
 go_enter Tryd.func25, Tryd.ntmps25
 go_wp2
 go_quiet (first | (go_at_call 20; (with_reducible refine (frame_size.calls gN n _ h0 h1 (by first | (with_reducible exact hn) | (rw [World.cell?_drewN]; exact hn) | (go_simp; done) | exact hn)).mono ?_); rintro e w' ⟨rfl, ⟨nd, rfl⟩⟩; exact ⟨rfl, _, World.drewN_drewN ..⟩) | (go_at_call 22; (with_reducible refine (frame_unless.calls b 2 r _ hr.out).mono ?_); rintro e w' ⟨rfl, ⟨nd, rfl⟩⟩; exact ⟨rfl, _, World.drewN_drewN ..⟩))
 go_wp2
 go_ret
 exact ⟨rfl, by first | exact Drawn0.refl w | exact ⟨_, rfl⟩ | exact ⟨⟨_, rfl⟩⟩⟩
set_option maxHeartbeats 8000000 in
set_option maxRecDepth 100000 in
theorem frame_c6.calls (gB : Nat) (A : Option Addr) (l : List Int) (c : Nat) (s : Int) (r : Int) (w : World) (hb : w.cell? ⟨gB, 0, none⟩ = some (.slice A l.length c)) (hl : l.length ≤ 3000000000) (hC : Kd.C (Kd.int .u8) w A l.length l) (hc : l.length ≤ c) (hs : octets_Sum.f l = some s) (hr_ : (if (s != 0) = true then 4 else 0) = r) :
  Calls Tryd.prog 26 #[.pointer (some ⟨gB, 0, none⟩)] w fun e w' => e = .returned (.int .i64 r) ∧ Drawn0 w w' := by
 obtain ⟨b, hb_⟩ : ∃ b : Bool, (s != 0) = b := ⟨_, rfl⟩
 rw [hb_] at hr_
 have hr := Aside0.mk hr_
 clear hr_
 go_enter Tryd.func26, Tryd.ntmps26
 go_wp2_with (first | ((with_reducible refine qqr (f := 16) rfl ?_); refine goesL_ (some 3) rfl rfl Tryd.func16 (by kernel_rfl) rfl #[.slice A l.length c] rfl (by (try simp only [List.map_toArray, List.map_cons, List.map_nil]); first | done | rfl) ?_; (with_reducible refine (octets_Sum.calls A c l s _ hC hc hs).mono ?_); rintro e w' ⟨rfl, ⟨nd, rfl⟩⟩; refine ⟨_, rfl, ?_⟩) | ((with_reducible refine qqr (f := 22) rfl ?_); refine goesL_ (some 5) rfl rfl Tryd.func22 (by kernel_rfl) rfl #[.bool b, .int .i64 4] rfl (by (try simp only [List.map_toArray, List.map_cons, List.map_nil]); first | done | rfl) ?_; (with_reducible refine (frame_unless.calls b 4 r _ hr.out).mono ?_); rintro e w2 ⟨rfl, hd⟩; refine ⟨_, rfl, ?_⟩))
 go_ret
 exact ⟨rfl, by first | exact hd | (obtain ⟨m, rfl⟩ := hd; exact ⟨_, World.drewN_drewN ..⟩)⟩
set_option maxHeartbeats 8000000 in
set_option maxRecDepth 100000 in
theorem frame_c7.calls (gB : Nat) (A : Option Addr) (l : List Int) (c : Nat) (gN : Nat) (n : Int) (r : Int) (w : World) (hb : w.cell? ⟨gB, 0, none⟩ = some (.slice A l.length c)) (hl : l.length ≤ 3000000000) (h0 : 0 ≤ n) (h1 : n ≤ 255) (hn : w.cell? ⟨gN, 0, none⟩ = some (.int .i64 n)) (hC : Kd.C (Kd.int .u8) w A l.length l) (hm : n % 2 = 1 → 2 + n < (l.length : Int)) (hr_ : (if (n % 2 == 1 && rd l (2 + n) != 0) = true then 2 else 0) = r) :
  Calls Tryd.prog 27 #[.pointer (some ⟨gN, 0, none⟩), .pointer (some ⟨gB, 0, none⟩)] w fun e w' => e = .returned (.int .i64 r) ∧ Drawn0 w w' := by
 have ht : Int.tmod n 2 = n % 2 := Int.tmod_eq_emod_of_nonneg h0
 by_cases c1 : n % 2 = 1
 ·have c1b : (n % 2 == 1) = true := beq_iff_eq.2 c1
  rw [c1b, Bool.true_and] at hr_
  have hk := hm c1
  obtain ⟨b, hb_⟩ : ∃ b : Bool, (rd l (2 + n) != 0) = b := ⟨_, rfl⟩
  rw [hb_] at hr_
  have hr := Aside0.mk hr_
  obtain ⟨ad, rfl, hx⟩ := Kd.at_int hC (2 + n) (by omega) hk
  clear hr_ hm hC c1
  go_enter Tryd.func27, Tryd.ntmps27
  go_wp2_with (first | ((with_reducible refine qqr (f := 22) rfl ?_); refine goesL_ (some 14) rfl rfl Tryd.func22 (by kernel_rfl) rfl #[.bool b, .int .i64 2] rfl (by (try simp only [List.map_toArray, List.map_cons, List.map_nil]); first | done | rfl) ?_; (with_reducible refine (frame_unless.calls b 2 r _ hr.out).mono ?_); rintro e w2 ⟨rfl, hd⟩; refine ⟨_, rfl, ?_⟩))
  go_ret
  exact ⟨rfl, hd⟩
 ·have c1b : (n % 2 == 1) = false := beq_eq_false_iff_ne.2 c1
  rw [c1b, Bool.false_and] at hr_
  have hr := Aside0.mk hr_
  clear hr_ hm hC c1
  go_enter Tryd.func27, Tryd.ntmps27
  go_wp2_with (first | ((with_reducible refine qqr (f := 22) rfl ?_); refine goesL_ (some 14) rfl rfl Tryd.func22 (by kernel_rfl) rfl #[.bool false, .int .i64 2] rfl (by (try simp only [List.map_toArray, List.map_cons, List.map_nil]); first | done | rfl) ?_; (with_reducible refine (frame_unless.calls false 2 r _ hr.out).mono ?_); rintro e w2 ⟨rfl, hd⟩; refine ⟨_, rfl, ?_⟩))
  go_ret
  exact ⟨rfl, hd⟩
theorem fr_ne {W : World} {g q : Nat} {o : Obj} (h : Aside0 (W.heap[g]? = some o)) (hg : q = W.heap.size) : Aside0 (g ≠ q) := Aside0.mk (by rw [hg]; exact Nat.ne_of_lt (blk_lt h.out))
theorem fr_bl {w w1 : World} {g : Nat} {o : Obj} (h : Aside0 (w.heap[g]? = some o)) (hb : Below w.heap.size w w1) : Aside0 (w1.heap[g]? = some o) := Aside0.mk (blk_below h.out hb)
theorem fr_st {w W w1 : World} (h : Aside0 (Below w.heap.size w W)) (hb : Below W.heap.size W w1) : Aside0 (Below w.heap.size w w1) := Aside0.mk (below_step h.out hb)
theorem fr_sz {w W : World} {g : Nat} (h : Aside0 (Below w.heap.size w W)) (hg : g = W.heap.size) : Aside0 (w.heap.size ≤ g) := Aside0.mk (by rw [hg]; exact qqu h.out)
theorem fr_put1 {w w' : World} {g : Nat} {t : TypeId} {v0 u0 : Value} (h : Aside0 (w.heap[g]? = some (.cells #[v0] t (0, 0)))) (hw : w' = (w.setCell ⟨g, 0, none⟩ u0)) : Aside0 (w'.heap[g]? = some (.cells #[u0] t (0, 0))) := by
 rw [hw]
 exact Aside0.mk (qqv (cs' := #[u0]) h.out 0 u0 rfl)
theorem fr_far1 {w w' : World} {q g : Nat} {t : TypeId} {cs : Array Value} {u0 : Value} (h : Aside0 (w.heap[q]? = some (.cells cs t (0, 0)))) (hp : q ≠ g) (hw : w' = (w.setCell ⟨g, 0, none⟩ u0)) : Aside0 (w'.heap[q]? = some (.cells cs t (0, 0))) := by
 rw [hw]
 exact Aside0.mk (qqq h.out hp u0)
theorem fr_bset1 {w0 w w' : World} {g : Nat} {u0 : Value} (h : Aside0 (Below w0.heap.size w0 w)) (hq : Aside0 (w0.heap.size ≤ g)) (hw : w' = (w.setCell ⟨g, 0, none⟩ u0)) : Aside0 (Below w0.heap.size w0 w') := by
 rw [hw]
 exact Aside0.mk (qqd h.out hq.out)
theorem fr_put10 {w w' : World} {g : Nat} {t : TypeId} {v0 v1 v2 v3 v4 v5 v6 v7 v8 v9 u0 u1 u2 u3 u4 u5 u6 u7 u8 u9 : Value} (h : Aside0 (w.heap[g]? = some (.cells #[v0, v1, v2, v3, v4, v5, v6, v7, v8, v9] t (0, 0)))) (hw : w' = ((((((((((w.setCell ⟨g, 0, none⟩ u0).setCell ⟨g, 1, none⟩ u1).setCell ⟨g, 2, none⟩ u2).setCell ⟨g, 3, none⟩ u3).setCell ⟨g, 4, none⟩ u4).setCell ⟨g, 5, none⟩ u5).setCell ⟨g, 6, none⟩ u6).setCell ⟨g, 7, none⟩ u7).setCell ⟨g, 8, none⟩ u8).setCell ⟨g, 9, none⟩ u9)) : Aside0 (w'.heap[g]? = some (.cells #[u0, u1, u2, u3, u4, u5, u6, u7, u8, u9] t (0, 0))) := by
 rw [hw]
 exact Aside0.mk (qqv (cs' := #[u0, u1, u2, u3, u4, u5, u6, u7, u8, u9]) (qqv (cs' := #[u0, u1, u2, u3, u4, u5, u6, u7, u8, v9]) (qqv (cs' := #[u0, u1, u2, u3, u4, u5, u6, u7, v8, v9]) (qqv (cs' := #[u0, u1, u2, u3, u4, u5, u6, v7, v8, v9]) (qqv (cs' := #[u0, u1, u2, u3, u4, u5, v6, v7, v8, v9]) (qqv (cs' := #[u0, u1, u2, u3, u4, v5, v6, v7, v8, v9]) (qqv (cs' := #[u0, u1, u2, u3, v4, v5, v6, v7, v8, v9]) (qqv (cs' := #[u0, u1, u2, v3, v4, v5, v6, v7, v8, v9]) (qqv (cs' := #[u0, u1, v2, v3, v4, v5, v6, v7, v8, v9]) (qqv (cs' := #[u0, v1, v2, v3, v4, v5, v6, v7, v8, v9]) h.out 0 u0 rfl) 1 u1 rfl) 2 u2 rfl) 3 u3 rfl) 4 u4 rfl) 5 u5 rfl) 6 u6 rfl) 7 u7 rfl) 8 u8 rfl) 9 u9 rfl)
theorem fr_far10 {w w' : World} {q g : Nat} {t : TypeId} {cs : Array Value} {u0 u1 u2 u3 u4 u5 u6 u7 u8 u9 : Value} (h : Aside0 (w.heap[q]? = some (.cells cs t (0, 0)))) (hp : q ≠ g) (hw : w' = ((((((((((w.setCell ⟨g, 0, none⟩ u0).setCell ⟨g, 1, none⟩ u1).setCell ⟨g, 2, none⟩ u2).setCell ⟨g, 3, none⟩ u3).setCell ⟨g, 4, none⟩ u4).setCell ⟨g, 5, none⟩ u5).setCell ⟨g, 6, none⟩ u6).setCell ⟨g, 7, none⟩ u7).setCell ⟨g, 8, none⟩ u8).setCell ⟨g, 9, none⟩ u9)) : Aside0 (w'.heap[q]? = some (.cells cs t (0, 0))) := by
 rw [hw]
 exact Aside0.mk (qqq (qqq (qqq (qqq (qqq (qqq (qqq (qqq (qqq (qqq h.out hp u0) hp u1) hp u2) hp u3) hp u4) hp u5) hp u6) hp u7) hp u8) hp u9)
theorem fr_bset10 {w0 w w' : World} {g : Nat} {u0 u1 u2 u3 u4 u5 u6 u7 u8 u9 : Value} (h : Aside0 (Below w0.heap.size w0 w)) (hq : Aside0 (w0.heap.size ≤ g)) (hw : w' = ((((((((((w.setCell ⟨g, 0, none⟩ u0).setCell ⟨g, 1, none⟩ u1).setCell ⟨g, 2, none⟩ u2).setCell ⟨g, 3, none⟩ u3).setCell ⟨g, 4, none⟩ u4).setCell ⟨g, 5, none⟩ u5).setCell ⟨g, 6, none⟩ u6).setCell ⟨g, 7, none⟩ u7).setCell ⟨g, 8, none⟩ u8).setCell ⟨g, 9, none⟩ u9)) : Aside0 (Below w0.heap.size w0 w') := by
 rw [hw]
 exact Aside0.mk (qqd (qqd (qqd (qqd (qqd (qqd (qqd (qqd (qqd (qqd h.out hq.out) hq.out) hq.out) hq.out) hq.out) hq.out) hq.out) hq.out) hq.out) hq.out)
theorem qqf {w : World} {g : Nat} {t : TypeId} {v0 : Value} (h : w.heap[g]? = some (.cells #[v0] t (0, 0))) : w.cell? ⟨g, 0, none⟩ = some v0 :=
 (qql h 0).trans rfl
theorem frame_cells6 {w : World} {g : Nat} {t : TypeId} {v0 v1 v2 v3 v4 v5 : Value} (h : w.heap[g]? = some (.cells #[v0, v1, v2, v3, v4, v5] t (0, 0))) : w.cell? ⟨g, 0, none⟩ = some v0 ∧ w.cell? ⟨g, 1, none⟩ = some v1 ∧ w.cell? ⟨g, 2, none⟩ = some v2 ∧ w.cell? ⟨g, 3, none⟩ = some v3 ∧ w.cell? ⟨g, 4, none⟩ = some v4 ∧ w.cell? ⟨g, 5, none⟩ = some v5 :=
 ⟨(qql h 0).trans rfl, (qql h 1).trans rfl, (qql h 2).trans rfl, (qql h 3).trans rfl, (qql h 4).trans rfl, (qql h 5).trans rfl⟩
theorem frame_cells10 {w : World} {g : Nat} {t : TypeId} {v0 v1 v2 v3 v4 v5 v6 v7 v8 v9 : Value} (h : w.heap[g]? = some (.cells #[v0, v1, v2, v3, v4, v5, v6, v7, v8, v9] t (0, 0))) : w.cell? ⟨g, 0, none⟩ = some v0 ∧ w.cell? ⟨g, 1, none⟩ = some v1 ∧ w.cell? ⟨g, 2, none⟩ = some v2 ∧ w.cell? ⟨g, 3, none⟩ = some v3 ∧ w.cell? ⟨g, 4, none⟩ = some v4 ∧ w.cell? ⟨g, 5, none⟩ = some v5 ∧ w.cell? ⟨g, 6, none⟩ = some v6 ∧ w.cell? ⟨g, 7, none⟩ = some v7 ∧ w.cell? ⟨g, 8, none⟩ = some v8 ∧ w.cell? ⟨g, 9, none⟩ = some v9 :=
 ⟨(qql h 0).trans rfl, (qql h 1).trans rfl, (qql h 2).trans rfl, (qql h 3).trans rfl, (qql h 4).trans rfl, (qql h 5).trans rfl, (qql h 6).trans rfl, (qql h 7).trans rfl, (qql h 8).trans rfl, (qql h 9).trans rfl⟩
theorem qqt {w : World} {g : Nat} {t : TypeId} {cs : Array Value} (h : w.heap[g]? = some (.cells cs t (0, 0))) : w.frozen? ⟨g, 0, none⟩ = false ∧ w.frozen? ⟨g, 1, none⟩ = false ∧ w.frozen? ⟨g, 2, none⟩ = false ∧ w.frozen? ⟨g, 3, none⟩ = false ∧ w.frozen? ⟨g, 4, none⟩ = false ∧ w.frozen? ⟨g, 5, none⟩ = false ∧ w.frozen? ⟨g, 6, none⟩ = false ∧ w.frozen? ⟨g, 7, none⟩ = false ∧ w.frozen? ⟨g, 8, none⟩ = false ∧ w.frozen? ⟨g, 9, none⟩ = false :=
 ⟨qqe h 0, qqe h 1, qqe h 2, qqe h 3, qqe h 4, qqe h 5, qqe h 6, qqe h 7, qqe h 8, qqe h 9⟩
theorem run_store_func {P : Program} {w : World} {a : Addr} {m : Mode} (fn : Fn) (first cap : Array Value) : (store a (.func fn first cap) m).run P w = stored P w a (.func fn first cap) m := run_store P w a _ m rfl
attribute [local go_sem] run_store_func
section
variable {P : Program} {ops : Array Oper} {o : Oper} {rest : List Oper} {a : Act} {Q : Exit → Act → World → Prop}
theorem slit_event {W : World} (hgd : o.guard = none) {N : Tmp} (_hd : o.dst = some N) {cs : Array Value} {t : TypeId} {n : Nat}
  (hrun : (execOp a.eval o).run P W = .ok (.value (.slice (some ⟨W.heap.size, 0, none⟩) n n)) (W.alloc (.cells cs t (0, 0))))
  (h : ∀ g, g = W.heap.size → ∀ w1, w1.heap[g]? = some (.cells cs t (0, 0)) → Below W.heap.size W w1 → wpList P ops Q rest (a.put o.dst (.slice (some ⟨g, 0, none⟩) n n)) w1) : wpList P ops Q (o :: rest) a W :=
 Kd.event_run hgd hrun (h _ rfl _ (blk_new W _) (qqc (Below.refl _ _) _))
end
theorem drawn_blk {w w' : World} (hd : Drawn0 w w') {g : Nat} {o : Obj} (h : w.heap[g]? = some o) : w'.heap[g]? = some o := by
 obtain ⟨m, rfl⟩ := hd
 exact (congrArg (fun h_ : Array Obj => h_[g]?) (World.heap_drewN w m)).trans h
theorem fr_dr {w w' : World} {g : Nat} {o : Obj} (h : Aside0 (w.heap[g]? = some o)) (hd : Drawn0 w w') : Aside0 (w'.heap[g]? = some o) := Aside0.mk (drawn_blk hd h.out)
def frame_Open.f (k : Nat) (l0 : List Int) : Option (Int × Int × Int × Int × Int × Int × Int × Int × Int × Int × Int) := if l0.length < 1000000000 then (if (l0.all fun x => decide (0 ≤ x) && decide (x ≤ 255)) = true then (if (l0.length : Int) < 4 then some (0, 0, 0, 0, 0, 0, 0, 0, 0, 0, 3) else (if (rd l0 0 != 197) = true then some (0, 0, 0, 0, 0, 0, 0, 0, 0, 0, 2) else (if (l0.length : Int) < 2 + rd l0 1 + rd l0 1 % 2 + 2 then some (0, 0, 0, 0, 0, 0, 0, 0, 0, 0, 3) else (if 2 + rd l0 1 + rd l0 1 % 2 + 2 < (l0.length : Int) then some (0, 0, 0, 0, 0, 0, 0, 0, 0, 0, 2) else ((octets_Sum.f l0).bind fun s => (if (s != 0) = true then some (0, 0, 0, 0, 0, 0, 0, 0, 0, 0, 4) else (if (rd l0 1 % 2 == 1 && rd l0 (2 + rd l0 1) != 0) = true then some (0, 0, 0, 0, 0, 0, 0, 0, 0, 0, 2) else msg_Get.f k ((l0.take (2 + rd l0 1).toNat).drop (2 : Int).toNat)))))))) else none) else none
theorem frame_Open.mono : ∀ a0 k, LeO (frame_Open.f k a0) (frame_Open.f (k + 1) a0) := by
 intro a0 k
 unfold frame_Open.f
 repeat' first
   | (with_reducible exact msg_Get.mono _ _)
   | (with_reducible exact LeO.refl _)
   | (with_reducible exact LeO.none _)
   | (with_reducible refine LeO.ite ?_ ?_)
   | (with_reducible refine LeO.bind ?_ (fun _ => ?_))
   | exact msg_Get.mono _ _
   | exact LeO.none _
   | refine LeO.ite ?_ ?_
   | refine LeO.bind ?_ (fun _ => ?_)
theorem frame_bytes {l0 : List Int} (g2 : (l0.all fun x => decide (0 ≤ x) && decide (x ≤ 255)) = true) : ∀ i : Int, 0 ≤ rd l0 i ∧ rd l0 i ≤ 255 := by
 intro i
 unfold rd
 rw [List.all_eq_true] at g2
 by_cases hi : i.toNat < l0.length
 ·have h5 := g2 _ (List.getElem_mem hi)
  simp only [Bool.and_eq_true, decide_eq_true_iff] at h5
  rw [List.getD_eq_getElem?_getD, List.getElem?_eq_getElem hi]
  exact h5
 ·rw [List.getD_eq_getElem?_getD, List.getElem?_eq_none (by omega)]
  exact ⟨by decide, by decide⟩
set_option maxHeartbeats 8000000 in
set_option maxRecDepth 100000 in
theorem frame_Open.errs (k : Nat) (A0 : Option Addr) (c0 : Nat) (l0 : List Int) (r1 : Int) (r2 : Int) (r3 : Int) (r4 : Int) (r5 : Int) (r6 : Int) (r7 : Int) (r8 : Int) (r9 : Int) (r10 : Int) (r11 : Int) (w : World) (hr0_ : Kd.C (Kd.int .u8) w A0 l0.length l0) (hc0_ : l0.length ≤ c0) (hx : ∀ s, octets_Sum.f l0 = some s → decide ((l0.length : Int) < 4) = false → (rd l0 0 != 197) = false → decide ((l0.length : Int) < 2 + rd l0 1 + rd l0 1 % 2 + 2) = false → decide (2 + rd l0 1 + rd l0 1 % 2 + 2 < (l0.length : Int)) = false → (s != 0) = false → (rd l0 1 % 2 == 1 && rd l0 (2 + rd l0 1) != 0) = false → False) (h : frame_Open.f k l0 = some (r1, r2, r3, r4, r5, r6, r7, r8, r9, r10, r11)) :
  Calls Tryd.prog 12 #[.slice A0 l0.length c0] w fun e w' => e = .returned (.tuple #[.agg #[.int .i64 r1, .int .i64 r2, .int .i64 r3, .int .i64 r4, .int .i64 r5, .int .i64 r6, .int .i64 r7, .int .i64 r8, .int .i64 r9, .int .i64 r10], .int .i64 r11]) ∧ Below w.heap.size w w' := by
 unfold frame_Open.f at h
 by_cases g1 : l0.length < 1000000000
 case neg => rw [if_neg g1] at h; exact absurd h (by simp)
 rw [if_pos g1] at h
 by_cases g2 : (l0.all fun x => decide (0 ≤ x) && decide (x ≤ 255)) = true
 case neg => rw [if_neg g2] at h; exact absurd h (by simp)
 rw [if_pos g2] at h
 have hby_ := frame_bytes g2
 clear g2
 have HH := Aside0.mk h
 clear h
 have hr0 := Aside0.mk hr0_
 have hc0 := Aside0.mk hc0_
 have hle := Aside0.mk (show l0.length ≤ 3000000000 from by omega)
 have hby := Aside0.mk hby_
 have HB := Aside0.mk (Below.refl w.heap.size w)
 have hmf : ∀ (fn : Fn) (first cap : Array Value) (w : World), (Instr.makeFunc fn first cap).run Tryd.prog w = .ok (.func fn first cap) w := fun _ _ _ _ => rfl
 have hfar := Aside0.mk (show 0 < l0.length → ∀ g, w.heap.size ≤ g → ∀ ad, A0 = some ad → ad.block ≠ g from fun h0 g hg ad e => Kd.far_C (0 : Int) hr0_ hg ad e h0)
 clear g1 hr0_ hc0_ hby_
 go_enter Tryd.func12, Tryd.ntmps12
 go_wp2_with (first | ((with_reducible refine qqs (N := 8) rfl ?_); refine Kd.event_run rfl (v := .func (.func 20) #[] #[.pointer (some ⟨gN, 0, none⟩)]) (w1 := _) ?hr ?_; (case hr => rfl)) | ((with_reducible refine qqs (N := 1) rfl ?_); refine box_event ?hg (N := 1) ?hd (cs := #[(.slice A0 l0.length c0)]) (t := 31) ?hr ?_; (case hd => rfl); (case hg => rfl); (case hr => first | (go_simp; done) | (go_simp; rfl)); intro gB hg wB hbox hb; have GEB := fr_sz HB hg; replace HB := fr_st HB hb; have BKB := Aside0.mk hbox; clear hb hbox hg; skip; have Qb := qqf BKB.out) | ((with_reducible refine qqs (N := 2) rfl ?_); refine box_event ?hg (N := 2) ?hd (cs := #[.int .i64 0, .int .i64 0, .int .i64 0, .int .i64 0, .int .i64 0, .int .i64 0, .int .i64 0, .int .i64 0, .int .i64 0, .int .i64 0]) (t := 29) ?hr ?_; (case hd => rfl); (case hg => rfl); (case hr => first | (go_simp; done) | (go_simp; rfl)); intro gM hg wM hbox hb; have GEM := fr_sz HB hg; have NBM := fr_ne BKB hg; replace BKB := fr_bl BKB hb; replace HB := fr_st HB hb; have BKM := Aside0.mk hbox; clear hb hbox hg; clear Qb; have Qb := qqf BKB.out; obtain ⟨Qe, Qf, Qg, Qh, Qi, Qj, Qk, Qm, Qn, Qo⟩ := frame_cells10 BKM.out; obtain ⟨Q0, Q1, Q2, Q3, Q4, Q5, Q6, Q7, Q8, Q9⟩ := qqt BKM.out) | ((with_reducible refine qqs (N := 4) rfl ?_); refine box_event ?hg (N := 4) ?hd (cs := #[.int .i64 0]) (t := 3) ?hr ?_; (case hd => rfl); (case hg => rfl); (case hr => first | (go_simp; done) | (go_simp; rfl)); intro gN hg wN hbox hb; have GEN := fr_sz HB hg; have NBN := fr_ne BKB hg; replace BKB := fr_bl BKB hb; have NMN := fr_ne BKM hg; replace BKM := fr_bl BKM hb; replace HB := fr_st HB hb; have BKN := Aside0.mk hbox; clear hb hbox hg; clear Qb Qe Qf Qg Qh Qi Qj Qk Qm Qn Qo Q0 Q1 Q2 Q3 Q4 Q5 Q6 Q7 Q8 Q9; have Qb := qqf BKB.out; obtain ⟨Qe, Qf, Qg, Qh, Qi, Qj, Qk, Qm, Qn, Qo⟩ := frame_cells10 BKM.out; obtain ⟨Q0, Q1, Q2, Q3, Q4, Q5, Q6, Q7, Q8, Q9⟩ := qqt BKM.out; have Qd := qqf BKN.out; have Qa := qqe BKN.out 0) | ((with_reducible refine gate_store (t := 3) (p := 4) rfl ?_); refine store_event (t := 3) (p := 4) (v := ?vow3b) (w1 := (wN.setCell ⟨gN, 0, none⟩ (.int .i64 0))) ?hg ?ho ?hn ?hr ?_; (case ho => rfl); (case hg => rfl); (case hn => rfl); (case hr => first | (go_simp; done) | (go_simp; rfl)); intro w3b hw; have n_N := fr_put1 BKN hw; replace BKB := fr_far1 BKB NBN.out hw; replace BKM := fr_far1 BKM NMN.out hw; replace HB := fr_bset1 HB GEN hw; clear BKN; have BKN := n_N; clear n_N hw; clear Qb Qe Qf Qg Qh Qi Qj Qk Qm Qn Qo Q0 Q1 Q2 Q3 Q4 Q5 Q6 Q7 Q8 Q9 Qd Qa; have Qb := qqf BKB.out; obtain ⟨Qe, Qf, Qg, Qh, Qi, Qj, Qk, Qm, Qn, Qo⟩ := frame_cells10 BKM.out; obtain ⟨Q0, Q1, Q2, Q3, Q4, Q5, Q6, Q7, Q8, Q9⟩ := qqt BKM.out; have Qd := qqf BKN.out; have Qa := qqe BKN.out 0) | ((with_reducible refine qqs (N := 5) rfl ?_); refine box_event ?hg (N := 5) ?hd (cs := #[.nilFunc]) (t := 46) ?hr ?_; (case hd => rfl); (case hg => rfl); (case hr => first | (go_simp; done) | (go_simp; rfl)); intro gS hg wS hbox hb; have GES := fr_sz HB hg; have NBS := fr_ne BKB hg; replace BKB := fr_bl BKB hb; have NMS := fr_ne BKM hg; replace BKM := fr_bl BKM hb; have NNS := fr_ne BKN hg; replace BKN := fr_bl BKN hb; replace HB := fr_st HB hb; have BKS := Aside0.mk hbox; clear hb hbox hg; clear Qb Qe Qf Qg Qh Qi Qj Qk Qm Qn Qo Q0 Q1 Q2 Q3 Q4 Q5 Q6 Q7 Q8 Q9 Qd Qa; have Qb := qqf BKB.out; obtain ⟨Qe, Qf, Qg, Qh, Qi, Qj, Qk, Qm, Qn, Qo⟩ := frame_cells10 BKM.out; obtain ⟨Q0, Q1, Q2, Q3, Q4, Q5, Q6, Q7, Q8, Q9⟩ := qqt BKM.out; have Qd := qqf BKN.out; have Qa := qqe BKN.out 0; have Qp := qqf BKS.out; have Qc := qqe BKS.out 0) | ((with_reducible refine gate_store (t := 46) (p := 5) rfl ?_); refine store_event (t := 46) (p := 5) (v := ?vow4b) (w1 := (wS.setCell ⟨gS, 0, none⟩ (.func (.func 20) #[] #[.pointer (some ⟨gN, 0, none⟩)]))) ?hg ?ho ?hn ?hr ?_; (case ho => rfl); (case hg => rfl); (case hn => rfl); (case hr => first | (go_simp; done) | (go_simp; rfl)); intro w4b hw; have n_S := fr_put1 BKS hw; replace BKB := fr_far1 BKB NBS.out hw; replace BKM := fr_far1 BKM NMS.out hw; replace BKN := fr_far1 BKN NNS.out hw; replace HB := fr_bset1 HB GES hw; clear BKS; have BKS := n_S; clear n_S hw; clear Qb Qe Qf Qg Qh Qi Qj Qk Qm Qn Qo Q0 Q1 Q2 Q3 Q4 Q5 Q6 Q7 Q8 Q9 Qd Qa Qp Qc; have Qb := qqf BKB.out; obtain ⟨Qe, Qf, Qg, Qh, Qi, Qj, Qk, Qm, Qn, Qo⟩ := frame_cells10 BKM.out; obtain ⟨Q0, Q1, Q2, Q3, Q4, Q5, Q6, Q7, Q8, Q9⟩ := qqt BKM.out; have Qd := qqf BKN.out; have Qa := qqe BKN.out 0; have Qp := qqf BKS.out; have Qc := qqe BKS.out 0) | ((with_reducible refine qqs (N := 15) rfl ?_); refine slit_event ?hg (N := 15) ?hd (n := 6) (cs := #[.func (.func 21) #[] #[.pointer (some ⟨gB, 0, none⟩)], .func (.func 23) #[] #[.pointer (some ⟨gB, 0, none⟩), .pointer (some ⟨gN, 0, none⟩)], .func (.func 24) #[] #[.pointer (some ⟨gB, 0, none⟩), .pointer (some ⟨gS, 0, none⟩)], .func (.func 25) #[] #[.pointer (some ⟨gB, 0, none⟩), .pointer (some ⟨gS, 0, none⟩)], .func (.func 26) #[] #[.pointer (some ⟨gB, 0, none⟩)], .func (.func 27) #[] #[.pointer (some ⟨gN, 0, none⟩), .pointer (some ⟨gB, 0, none⟩)]]) (t := 48) ?hr ?_; (case hd => rfl); (case hg => rfl); (case hr => first | (go_simp; done) | (go_simp; rfl)); intro gF hg wF hbox hb; have GEF := fr_sz HB hg; have NBF := fr_ne BKB hg; replace BKB := fr_bl BKB hb; have NMF := fr_ne BKM hg; replace BKM := fr_bl BKM hb; have NNF := fr_ne BKN hg; replace BKN := fr_bl BKN hb; have NSF := fr_ne BKS hg; replace BKS := fr_bl BKS hb; replace HB := fr_st HB hb; have BKF := Aside0.mk hbox; clear hb hbox hg; clear Qb Qe Qf Qg Qh Qi Qj Qk Qm Qn Qo Q0 Q1 Q2 Q3 Q4 Q5 Q6 Q7 Q8 Q9 Qd Qa Qp Qc; have Qb := qqf BKB.out; obtain ⟨Qe, Qf, Qg, Qh, Qi, Qj, Qk, Qm, Qn, Qo⟩ := frame_cells10 BKM.out; obtain ⟨Q0, Q1, Q2, Q3, Q4, Q5, Q6, Q7, Q8, Q9⟩ := qqt BKM.out; have Qd := qqf BKN.out; have Qa := qqe BKN.out 0; have Qp := qqf BKS.out; have Qc := qqe BKS.out 0; obtain ⟨Qq, Qr, Qs, Qt, Qu, Qv⟩ := frame_cells6 BKF.out))
 refine wp_loop_rounds 7 ?_
 rw [rounds_succ]
 by_cases t1 : (l0.length : Int) < 4
 ·have h := HH.out
  rw [if_pos t1] at h
  simp only [Option.some.injEq, Prod.mk.injEq] at h
  obtain ⟨rfl, rfl, rfl, rfl, rfl, rfl, rfl, rfl, rfl, rfl, rfl⟩ := h
  have C1 := Aside0.mk (show (if decide ((l0.length : Int) < 4) = true then 3 else 0) = (3 : Int) from by rw [decide_eq_true t1]; rfl)
  clear t1 HH
  go_wp2_with (first | (go_at_call 21; (with_reducible refine (frame_c2.calls gB A0 l0 c0 3 _ Qb hle.out C1.out).mono ?_); rintro e wc1 ⟨rfl, hd⟩; replace BKB := fr_dr BKB hd; replace BKM := fr_dr BKM hd; replace BKN := fr_dr BKN hd; replace BKS := fr_dr BKS hd; replace BKF := fr_dr BKF hd; replace HB := fr_st HB hd.below; clear hd; clear Qb Qe Qf Qg Qh Qi Qj Qk Qm Qn Qo Q0 Q1 Q2 Q3 Q4 Q5 Q6 Q7 Q8 Q9 Qd Qa Qp Qc Qq Qr Qs Qt Qu Qv; have Qb := qqf BKB.out; obtain ⟨Qe, Qf, Qg, Qh, Qi, Qj, Qk, Qm, Qn, Qo⟩ := frame_cells10 BKM.out; obtain ⟨Q0, Q1, Q2, Q3, Q4, Q5, Q6, Q7, Q8, Q9⟩ := qqt BKM.out; have Qd := qqf BKN.out; have Qa := qqe BKN.out 0; have Qp := qqf BKS.out; have Qc := qqe BKS.out 0; obtain ⟨Qq, Qr, Qs, Qt, Qu, Qv⟩ := frame_cells6 BKF.out) | ((with_reducible refine gate_store (t := 29) (p := 2) rfl ?_); refine store_event (t := 29) (p := 2) (v := ?vowz) (w1 := ((((((((((wc1.setCell ⟨gM, 0, none⟩ (.int .i64 0)).setCell ⟨gM, 1, none⟩ (.int .i64 0)).setCell ⟨gM, 2, none⟩ (.int .i64 0)).setCell ⟨gM, 3, none⟩ (.int .i64 0)).setCell ⟨gM, 4, none⟩ (.int .i64 0)).setCell ⟨gM, 5, none⟩ (.int .i64 0)).setCell ⟨gM, 6, none⟩ (.int .i64 0)).setCell ⟨gM, 7, none⟩ (.int .i64 0)).setCell ⟨gM, 8, none⟩ (.int .i64 0)).setCell ⟨gM, 9, none⟩ (.int .i64 0))) ?hg ?ho ?hn ?hr ?_; (case ho => rfl); (case hg => rfl); (case hn => rfl); (case hr => first | (go_simp; done) | (go_simp; rfl)); intro wz hw; have n_M := fr_put10 BKM hw; replace BKB := fr_far10 BKB NBM.out hw; replace BKN := fr_far10 BKN (Ne.symm NMN.out) hw; replace BKS := fr_far10 BKS (Ne.symm NMS.out) hw; replace BKF := fr_far10 BKF (Ne.symm NMF.out) hw; replace HB := fr_bset10 HB GEM hw; clear BKM; have BKM := n_M; clear n_M hw; clear Qb Qe Qf Qg Qh Qi Qj Qk Qm Qn Qo Q0 Q1 Q2 Q3 Q4 Q5 Q6 Q7 Q8 Q9 Qd Qa Qp Qc Qq Qr Qs Qt Qu Qv; have Qb := qqf BKB.out; obtain ⟨Qe, Qf, Qg, Qh, Qi, Qj, Qk, Qm, Qn, Qo⟩ := frame_cells10 BKM.out; obtain ⟨Q0, Q1, Q2, Q3, Q4, Q5, Q6, Q7, Q8, Q9⟩ := qqt BKM.out; have Qd := qqf BKN.out; have Qa := qqe BKN.out 0; have Qp := qqf BKS.out; have Qc := qqe BKS.out 0; obtain ⟨Qq, Qr, Qs, Qt, Qu, Qv⟩ := frame_cells6 BKF.out))
  refine bodyPost_ret (results_ct rfl _ _ gM 29 #[.int .i64 0, .int .i64 0, .int .i64 0, .int .i64 0, .int .i64 0, .int .i64 0, .int .i64 0, .int .i64 0, .int .i64 0, .int .i64 0] (0, 0) _ rfl BKM.out Tryd.underlying29 rfl (by kernel_rfl)) rfl ?_
  exact ⟨rfl, HB.out⟩
 ·have h_ := HH.out
  rw [if_neg t1] at h_
  clear HH
  have HH := Aside0.mk h_
  clear h_
  have D1 := Aside0.mk (show decide ((l0.length : Int) < 4) = false from decide_eq_false t1)
  have C1 := Aside0.mk (show (if decide ((l0.length : Int) < 4) = true then 3 else 0) = (0 : Int) from by rw [D1.out]; rfl)
  clear t1
  have h2 := Aside0.mk (show 2 ≤ l0.length from by have := of_decide_eq_false D1.out; omega)
  go_wp2_with (first | (go_at_call 21; (with_reducible refine (frame_c2.calls gB A0 l0 c0 0 _ Qb hle.out C1.out).mono ?_); rintro e wc1 ⟨rfl, hd⟩; replace BKB := fr_dr BKB hd; replace BKM := fr_dr BKM hd; replace BKN := fr_dr BKN hd; replace BKS := fr_dr BKS hd; replace BKF := fr_dr BKF hd; replace HB := fr_st HB hd.below; clear hd; clear Qb Qe Qf Qg Qh Qi Qj Qk Qm Qn Qo Q0 Q1 Q2 Q3 Q4 Q5 Q6 Q7 Q8 Q9 Qd Qa Qp Qc Qq Qr Qs Qt Qu Qv; have Qb := qqf BKB.out; obtain ⟨Qe, Qf, Qg, Qh, Qi, Qj, Qk, Qm, Qn, Qo⟩ := frame_cells10 BKM.out; obtain ⟨Q0, Q1, Q2, Q3, Q4, Q5, Q6, Q7, Q8, Q9⟩ := qqt BKM.out; have Qd := qqf BKN.out; have Qa := qqe BKN.out 0; have Qp := qqf BKS.out; have Qc := qqe BKS.out 0; obtain ⟨Qq, Qr, Qs, Qt, Qu, Qv⟩ := frame_cells6 BKF.out))
  rw [rounds_succ]
  by_cases t2 : (rd l0 0 != 197) = true
  ·have h := HH.out
   rw [if_pos t2] at h
   simp only [Option.some.injEq, Prod.mk.injEq] at h
   obtain ⟨rfl, rfl, rfl, rfl, rfl, rfl, rfl, rfl, rfl, rfl, rfl⟩ := h
   have C2 := Aside0.mk (show (if (rd l0 0 != 197) = true then 2 else 0) = (2 : Int) from by rw [t2]; rfl)
   clear t2 HH
   go_wp2_with (first | (go_at_call 23; (with_reducible refine (frame_c3.calls gB A0 l0 c0 gN 0 2 _ Qb hle.out NBN.out (by (with_reducible repeat (first | refine qqg ?_ _ | refine qqk ?_ | refine qqh ?_ _)); exact BKN.out) (Kd.C_below hr0.out (by repeat (first | (with_reducible first | exact HB.out | apply qqc | apply qqa | apply qqb) | exact HB.out))) h2.out hby.out (hfar.out (by have := h2.out; omega) gN GEN.out) C2.out).mono ?_); rintro e wc2 ⟨rfl, hd⟩; have n_N := Aside0.mk (drawn_blk hd (qqv (cs' := #[.int .i64 (rd l0 1)]) BKN.out 0 (.int .i64 (rd l0 1)) rfl)); have n_B := Aside0.mk (drawn_blk hd (qqq BKB.out NBN.out (.int .i64 (rd l0 1)))); have n_M := Aside0.mk (drawn_blk hd (qqq BKM.out NMN.out (.int .i64 (rd l0 1)))); have n_S := Aside0.mk (drawn_blk hd (qqq BKS.out (Ne.symm NNS.out) (.int .i64 (rd l0 1)))); have n_F := Aside0.mk (drawn_blk hd (qqq BKF.out (Ne.symm NNF.out) (.int .i64 (rd l0 1)))); have n0_ := Aside0.mk (below_step (qqd HB.out GEN.out) hd.below); clear HB; have HB := n0_; clear n0_ hd; clear BKB; have BKB := n_B; clear n_B; clear BKM; have BKM := n_M; clear n_M; clear BKN; have BKN := n_N; clear n_N; clear BKS; have BKS := n_S; clear n_S; clear BKF; have BKF := n_F; clear n_F; clear Qb Qe Qf Qg Qh Qi Qj Qk Qm Qn Qo Q0 Q1 Q2 Q3 Q4 Q5 Q6 Q7 Q8 Q9 Qd Qa Qp Qc Qq Qr Qs Qt Qu Qv; have Qb := qqf BKB.out; obtain ⟨Qe, Qf, Qg, Qh, Qi, Qj, Qk, Qm, Qn, Qo⟩ := frame_cells10 BKM.out; obtain ⟨Q0, Q1, Q2, Q3, Q4, Q5, Q6, Q7, Q8, Q9⟩ := qqt BKM.out; have Qd := qqf BKN.out; have Qa := qqe BKN.out 0; have Qp := qqf BKS.out; have Qc := qqe BKS.out 0; obtain ⟨Qq, Qr, Qs, Qt, Qu, Qv⟩ := frame_cells6 BKF.out) | ((with_reducible refine gate_store (t := 29) (p := 2) rfl ?_); refine store_event (t := 29) (p := 2) (v := ?vowz) (w1 := ((((((((((wc2.setCell ⟨gM, 0, none⟩ (.int .i64 0)).setCell ⟨gM, 1, none⟩ (.int .i64 0)).setCell ⟨gM, 2, none⟩ (.int .i64 0)).setCell ⟨gM, 3, none⟩ (.int .i64 0)).setCell ⟨gM, 4, none⟩ (.int .i64 0)).setCell ⟨gM, 5, none⟩ (.int .i64 0)).setCell ⟨gM, 6, none⟩ (.int .i64 0)).setCell ⟨gM, 7, none⟩ (.int .i64 0)).setCell ⟨gM, 8, none⟩ (.int .i64 0)).setCell ⟨gM, 9, none⟩ (.int .i64 0))) ?hg ?ho ?hn ?hr ?_; (case ho => rfl); (case hg => rfl); (case hn => rfl); (case hr => first | (go_simp; done) | (go_simp; rfl)); intro wz hw; have n_M := fr_put10 BKM hw; replace BKB := fr_far10 BKB NBM.out hw; replace BKN := fr_far10 BKN (Ne.symm NMN.out) hw; replace BKS := fr_far10 BKS (Ne.symm NMS.out) hw; replace BKF := fr_far10 BKF (Ne.symm NMF.out) hw; replace HB := fr_bset10 HB GEM hw; clear BKM; have BKM := n_M; clear n_M hw; clear Qb Qe Qf Qg Qh Qi Qj Qk Qm Qn Qo Q0 Q1 Q2 Q3 Q4 Q5 Q6 Q7 Q8 Q9 Qd Qa Qp Qc Qq Qr Qs Qt Qu Qv; have Qb := qqf BKB.out; obtain ⟨Qe, Qf, Qg, Qh, Qi, Qj, Qk, Qm, Qn, Qo⟩ := frame_cells10 BKM.out; obtain ⟨Q0, Q1, Q2, Q3, Q4, Q5, Q6, Q7, Q8, Q9⟩ := qqt BKM.out; have Qd := qqf BKN.out; have Qa := qqe BKN.out 0; have Qp := qqf BKS.out; have Qc := qqe BKS.out 0; obtain ⟨Qq, Qr, Qs, Qt, Qu, Qv⟩ := frame_cells6 BKF.out))
   refine bodyPost_ret (results_ct rfl _ _ gM 29 #[.int .i64 0, .int .i64 0, .int .i64 0, .int .i64 0, .int .i64 0, .int .i64 0, .int .i64 0, .int .i64 0, .int .i64 0, .int .i64 0] (0, 0) _ rfl BKM.out Tryd.underlying29 rfl (by kernel_rfl)) rfl ?_
   exact ⟨rfl, HB.out⟩
  ·have h_ := HH.out
   rw [if_neg t2] at h_
   clear HH
   have HH := Aside0.mk h_
   clear h_
   have D2 := Aside0.mk (show (rd l0 0 != 197) = false from Bool.eq_false_iff.mpr t2)
   have C2 := Aside0.mk (show (if (rd l0 0 != 197) = true then 2 else 0) = (0 : Int) from by rw [D2.out]; rfl)
   clear t2
   go_wp2_with (first | (go_at_call 23; (with_reducible refine (frame_c3.calls gB A0 l0 c0 gN 0 0 _ Qb hle.out NBN.out (by (with_reducible repeat (first | refine qqg ?_ _ | refine qqk ?_ | refine qqh ?_ _)); exact BKN.out) (Kd.C_below hr0.out (by repeat (first | (with_reducible first | exact HB.out | apply qqc | apply qqa | apply qqb) | exact HB.out))) h2.out hby.out (hfar.out (by have := h2.out; omega) gN GEN.out) C2.out).mono ?_); rintro e wc2 ⟨rfl, hd⟩; have n_N := Aside0.mk (drawn_blk hd (qqv (cs' := #[.int .i64 (rd l0 1)]) BKN.out 0 (.int .i64 (rd l0 1)) rfl)); have n_B := Aside0.mk (drawn_blk hd (qqq BKB.out NBN.out (.int .i64 (rd l0 1)))); have n_M := Aside0.mk (drawn_blk hd (qqq BKM.out NMN.out (.int .i64 (rd l0 1)))); have n_S := Aside0.mk (drawn_blk hd (qqq BKS.out (Ne.symm NNS.out) (.int .i64 (rd l0 1)))); have n_F := Aside0.mk (drawn_blk hd (qqq BKF.out (Ne.symm NNF.out) (.int .i64 (rd l0 1)))); have n0_ := Aside0.mk (below_step (qqd HB.out GEN.out) hd.below); clear HB; have HB := n0_; clear n0_ hd; clear BKB; have BKB := n_B; clear n_B; clear BKM; have BKM := n_M; clear n_M; clear BKN; have BKN := n_N; clear n_N; clear BKS; have BKS := n_S; clear n_S; clear BKF; have BKF := n_F; clear n_F; clear Qb Qe Qf Qg Qh Qi Qj Qk Qm Qn Qo Q0 Q1 Q2 Q3 Q4 Q5 Q6 Q7 Q8 Q9 Qd Qa Qp Qc Qq Qr Qs Qt Qu Qv; have Qb := qqf BKB.out; obtain ⟨Qe, Qf, Qg, Qh, Qi, Qj, Qk, Qm, Qn, Qo⟩ := frame_cells10 BKM.out; obtain ⟨Q0, Q1, Q2, Q3, Q4, Q5, Q6, Q7, Q8, Q9⟩ := qqt BKM.out; have Qd := qqf BKN.out; have Qa := qqe BKN.out 0; have Qp := qqf BKS.out; have Qc := qqe BKS.out 0; obtain ⟨Qq, Qr, Qs, Qt, Qu, Qv⟩ := frame_cells6 BKF.out))
   obtain ⟨qa0, qa1⟩ := hby.out 1
   rw [rounds_succ]
   by_cases t3 : (l0.length : Int) < 2 + rd l0 1 + rd l0 1 % 2 + 2
   ·have h := HH.out
    rw [if_pos t3] at h
    simp only [Option.some.injEq, Prod.mk.injEq] at h
    obtain ⟨rfl, rfl, rfl, rfl, rfl, rfl, rfl, rfl, rfl, rfl, rfl⟩ := h
    have C3 := Aside0.mk (show (if decide ((l0.length : Int) < 2 + rd l0 1 + rd l0 1 % 2 + 2) = true then 3 else 0) = (3 : Int) from by rw [decide_eq_true t3]; rfl)
    clear t3 HH
    go_wp2_with (first | (go_at_call 24; (with_reducible refine (frame_c4.calls gB A0 l0 c0 gN gS (rd l0 1) 3 _ Qb hle.out qa0 qa1 Qd Qp C3.out).mono ?_); rintro e wc3 ⟨rfl, hd⟩; replace BKB := fr_dr BKB hd; replace BKM := fr_dr BKM hd; replace BKN := fr_dr BKN hd; replace BKS := fr_dr BKS hd; replace BKF := fr_dr BKF hd; replace HB := fr_st HB hd.below; clear hd; clear Qb Qe Qf Qg Qh Qi Qj Qk Qm Qn Qo Q0 Q1 Q2 Q3 Q4 Q5 Q6 Q7 Q8 Q9 Qd Qa Qp Qc Qq Qr Qs Qt Qu Qv; have Qb := qqf BKB.out; obtain ⟨Qe, Qf, Qg, Qh, Qi, Qj, Qk, Qm, Qn, Qo⟩ := frame_cells10 BKM.out; obtain ⟨Q0, Q1, Q2, Q3, Q4, Q5, Q6, Q7, Q8, Q9⟩ := qqt BKM.out; have Qd := qqf BKN.out; have Qa := qqe BKN.out 0; have Qp := qqf BKS.out; have Qc := qqe BKS.out 0; obtain ⟨Qq, Qr, Qs, Qt, Qu, Qv⟩ := frame_cells6 BKF.out) | ((with_reducible refine gate_store (t := 29) (p := 2) rfl ?_); refine store_event (t := 29) (p := 2) (v := ?vowz) (w1 := ((((((((((wc3.setCell ⟨gM, 0, none⟩ (.int .i64 0)).setCell ⟨gM, 1, none⟩ (.int .i64 0)).setCell ⟨gM, 2, none⟩ (.int .i64 0)).setCell ⟨gM, 3, none⟩ (.int .i64 0)).setCell ⟨gM, 4, none⟩ (.int .i64 0)).setCell ⟨gM, 5, none⟩ (.int .i64 0)).setCell ⟨gM, 6, none⟩ (.int .i64 0)).setCell ⟨gM, 7, none⟩ (.int .i64 0)).setCell ⟨gM, 8, none⟩ (.int .i64 0)).setCell ⟨gM, 9, none⟩ (.int .i64 0))) ?hg ?ho ?hn ?hr ?_; (case ho => rfl); (case hg => rfl); (case hn => rfl); (case hr => first | (go_simp; done) | (go_simp; rfl)); intro wz hw; have n_M := fr_put10 BKM hw; replace BKB := fr_far10 BKB NBM.out hw; replace BKN := fr_far10 BKN (Ne.symm NMN.out) hw; replace BKS := fr_far10 BKS (Ne.symm NMS.out) hw; replace BKF := fr_far10 BKF (Ne.symm NMF.out) hw; replace HB := fr_bset10 HB GEM hw; clear BKM; have BKM := n_M; clear n_M hw; clear Qb Qe Qf Qg Qh Qi Qj Qk Qm Qn Qo Q0 Q1 Q2 Q3 Q4 Q5 Q6 Q7 Q8 Q9 Qd Qa Qp Qc Qq Qr Qs Qt Qu Qv; have Qb := qqf BKB.out; obtain ⟨Qe, Qf, Qg, Qh, Qi, Qj, Qk, Qm, Qn, Qo⟩ := frame_cells10 BKM.out; obtain ⟨Q0, Q1, Q2, Q3, Q4, Q5, Q6, Q7, Q8, Q9⟩ := qqt BKM.out; have Qd := qqf BKN.out; have Qa := qqe BKN.out 0; have Qp := qqf BKS.out; have Qc := qqe BKS.out 0; obtain ⟨Qq, Qr, Qs, Qt, Qu, Qv⟩ := frame_cells6 BKF.out))
    refine bodyPost_ret (results_ct rfl _ _ gM 29 #[.int .i64 0, .int .i64 0, .int .i64 0, .int .i64 0, .int .i64 0, .int .i64 0, .int .i64 0, .int .i64 0, .int .i64 0, .int .i64 0] (0, 0) _ rfl BKM.out Tryd.underlying29 rfl (by kernel_rfl)) rfl ?_
    exact ⟨rfl, HB.out⟩
   ·have h_ := HH.out
    rw [if_neg t3] at h_
    clear HH
    have HH := Aside0.mk h_
    clear h_
    have D3 := Aside0.mk (show decide ((l0.length : Int) < 2 + rd l0 1 + rd l0 1 % 2 + 2) = false from decide_eq_false t3)
    have C3 := Aside0.mk (show (if decide ((l0.length : Int) < 2 + rd l0 1 + rd l0 1 % 2 + 2) = true then 3 else 0) = (0 : Int) from by rw [D3.out]; rfl)
    clear t3
    go_wp2_with (first | (go_at_call 24; (with_reducible refine (frame_c4.calls gB A0 l0 c0 gN gS (rd l0 1) 0 _ Qb hle.out qa0 qa1 Qd Qp C3.out).mono ?_); rintro e wc3 ⟨rfl, hd⟩; replace BKB := fr_dr BKB hd; replace BKM := fr_dr BKM hd; replace BKN := fr_dr BKN hd; replace BKS := fr_dr BKS hd; replace BKF := fr_dr BKF hd; replace HB := fr_st HB hd.below; clear hd; clear Qb Qe Qf Qg Qh Qi Qj Qk Qm Qn Qo Q0 Q1 Q2 Q3 Q4 Q5 Q6 Q7 Q8 Q9 Qd Qa Qp Qc Qq Qr Qs Qt Qu Qv; have Qb := qqf BKB.out; obtain ⟨Qe, Qf, Qg, Qh, Qi, Qj, Qk, Qm, Qn, Qo⟩ := frame_cells10 BKM.out; obtain ⟨Q0, Q1, Q2, Q3, Q4, Q5, Q6, Q7, Q8, Q9⟩ := qqt BKM.out; have Qd := qqf BKN.out; have Qa := qqe BKN.out 0; have Qp := qqf BKS.out; have Qc := qqe BKS.out 0; obtain ⟨Qq, Qr, Qs, Qt, Qu, Qv⟩ := frame_cells6 BKF.out))
    rw [rounds_succ]
    by_cases t4 : 2 + rd l0 1 + rd l0 1 % 2 + 2 < (l0.length : Int)
    ·have h := HH.out
     rw [if_pos t4] at h
     simp only [Option.some.injEq, Prod.mk.injEq] at h
     obtain ⟨rfl, rfl, rfl, rfl, rfl, rfl, rfl, rfl, rfl, rfl, rfl⟩ := h
     have C4 := Aside0.mk (show (if decide (2 + rd l0 1 + rd l0 1 % 2 + 2 < (l0.length : Int)) = true then 2 else 0) = (2 : Int) from by rw [decide_eq_true t4]; rfl)
     clear t4 HH
     go_wp2_with (first | (go_at_call 25; (with_reducible refine (frame_c5.calls gB A0 l0 c0 gN gS (rd l0 1) 2 _ Qb hle.out qa0 qa1 Qd Qp C4.out).mono ?_); rintro e wc4 ⟨rfl, hd⟩; replace BKB := fr_dr BKB hd; replace BKM := fr_dr BKM hd; replace BKN := fr_dr BKN hd; replace BKS := fr_dr BKS hd; replace BKF := fr_dr BKF hd; replace HB := fr_st HB hd.below; clear hd; clear Qb Qe Qf Qg Qh Qi Qj Qk Qm Qn Qo Q0 Q1 Q2 Q3 Q4 Q5 Q6 Q7 Q8 Q9 Qd Qa Qp Qc Qq Qr Qs Qt Qu Qv; have Qb := qqf BKB.out; obtain ⟨Qe, Qf, Qg, Qh, Qi, Qj, Qk, Qm, Qn, Qo⟩ := frame_cells10 BKM.out; obtain ⟨Q0, Q1, Q2, Q3, Q4, Q5, Q6, Q7, Q8, Q9⟩ := qqt BKM.out; have Qd := qqf BKN.out; have Qa := qqe BKN.out 0; have Qp := qqf BKS.out; have Qc := qqe BKS.out 0; obtain ⟨Qq, Qr, Qs, Qt, Qu, Qv⟩ := frame_cells6 BKF.out) | ((with_reducible refine gate_store (t := 29) (p := 2) rfl ?_); refine store_event (t := 29) (p := 2) (v := ?vowz) (w1 := ((((((((((wc4.setCell ⟨gM, 0, none⟩ (.int .i64 0)).setCell ⟨gM, 1, none⟩ (.int .i64 0)).setCell ⟨gM, 2, none⟩ (.int .i64 0)).setCell ⟨gM, 3, none⟩ (.int .i64 0)).setCell ⟨gM, 4, none⟩ (.int .i64 0)).setCell ⟨gM, 5, none⟩ (.int .i64 0)).setCell ⟨gM, 6, none⟩ (.int .i64 0)).setCell ⟨gM, 7, none⟩ (.int .i64 0)).setCell ⟨gM, 8, none⟩ (.int .i64 0)).setCell ⟨gM, 9, none⟩ (.int .i64 0))) ?hg ?ho ?hn ?hr ?_; (case ho => rfl); (case hg => rfl); (case hn => rfl); (case hr => first | (go_simp; done) | (go_simp; rfl)); intro wz hw; have n_M := fr_put10 BKM hw; replace BKB := fr_far10 BKB NBM.out hw; replace BKN := fr_far10 BKN (Ne.symm NMN.out) hw; replace BKS := fr_far10 BKS (Ne.symm NMS.out) hw; replace BKF := fr_far10 BKF (Ne.symm NMF.out) hw; replace HB := fr_bset10 HB GEM hw; clear BKM; have BKM := n_M; clear n_M hw; clear Qb Qe Qf Qg Qh Qi Qj Qk Qm Qn Qo Q0 Q1 Q2 Q3 Q4 Q5 Q6 Q7 Q8 Q9 Qd Qa Qp Qc Qq Qr Qs Qt Qu Qv; have Qb := qqf BKB.out; obtain ⟨Qe, Qf, Qg, Qh, Qi, Qj, Qk, Qm, Qn, Qo⟩ := frame_cells10 BKM.out; obtain ⟨Q0, Q1, Q2, Q3, Q4, Q5, Q6, Q7, Q8, Q9⟩ := qqt BKM.out; have Qd := qqf BKN.out; have Qa := qqe BKN.out 0; have Qp := qqf BKS.out; have Qc := qqe BKS.out 0; obtain ⟨Qq, Qr, Qs, Qt, Qu, Qv⟩ := frame_cells6 BKF.out))
     refine bodyPost_ret (results_ct rfl _ _ gM 29 #[.int .i64 0, .int .i64 0, .int .i64 0, .int .i64 0, .int .i64 0, .int .i64 0, .int .i64 0, .int .i64 0, .int .i64 0, .int .i64 0] (0, 0) _ rfl BKM.out Tryd.underlying29 rfl (by kernel_rfl)) rfl ?_
     exact ⟨rfl, HB.out⟩
    ·have h_ := HH.out
     rw [if_neg t4] at h_
     clear HH
     have HH := Aside0.mk h_
     clear h_
     have D4 := Aside0.mk (show decide (2 + rd l0 1 + rd l0 1 % 2 + 2 < (l0.length : Int)) = false from decide_eq_false t4)
     have C4 := Aside0.mk (show (if decide (2 + rd l0 1 + rd l0 1 % 2 + 2 < (l0.length : Int)) = true then 2 else 0) = (0 : Int) from by rw [D4.out]; rfl)
     clear t4
     go_wp2_with (first | (go_at_call 25; (with_reducible refine (frame_c5.calls gB A0 l0 c0 gN gS (rd l0 1) 0 _ Qb hle.out qa0 qa1 Qd Qp C4.out).mono ?_); rintro e wc4 ⟨rfl, hd⟩; replace BKB := fr_dr BKB hd; replace BKM := fr_dr BKM hd; replace BKN := fr_dr BKN hd; replace BKS := fr_dr BKS hd; replace BKF := fr_dr BKF hd; replace HB := fr_st HB hd.below; clear hd; clear Qb Qe Qf Qg Qh Qi Qj Qk Qm Qn Qo Q0 Q1 Q2 Q3 Q4 Q5 Q6 Q7 Q8 Q9 Qd Qa Qp Qc Qq Qr Qs Qt Qu Qv; have Qb := qqf BKB.out; obtain ⟨Qe, Qf, Qg, Qh, Qi, Qj, Qk, Qm, Qn, Qo⟩ := frame_cells10 BKM.out; obtain ⟨Q0, Q1, Q2, Q3, Q4, Q5, Q6, Q7, Q8, Q9⟩ := qqt BKM.out; have Qd := qqf BKN.out; have Qa := qqe BKN.out 0; have Qp := qqf BKS.out; have Qc := qqe BKS.out 0; obtain ⟨Qq, Qr, Qs, Qt, Qu, Qv⟩ := frame_cells6 BKF.out))
     obtain ⟨s, hs_, h_⟩ := Option.bind_eq_some_iff.mp HH.out
     have HS := Aside0.mk hs_
     clear HH
     have HH := Aside0.mk h_
     clear hs_ h_
     rw [rounds_succ]
     by_cases t5 : (s != 0) = true
     ·have h := HH.out
      rw [if_pos t5] at h
      simp only [Option.some.injEq, Prod.mk.injEq] at h
      obtain ⟨rfl, rfl, rfl, rfl, rfl, rfl, rfl, rfl, rfl, rfl, rfl⟩ := h
      have C5 := Aside0.mk (show (if (s != 0) = true then 4 else 0) = (4 : Int) from by rw [t5]; rfl)
      clear t5 HH
      go_wp2_with (first | (go_at_call 26; (with_reducible refine (frame_c6.calls gB A0 l0 c0 s 4 _ Qb hle.out (Kd.C_below hr0.out HB.out) hc0.out HS.out C5.out).mono ?_); rintro e wc5 ⟨rfl, hd⟩; replace BKB := fr_dr BKB hd; replace BKM := fr_dr BKM hd; replace BKN := fr_dr BKN hd; replace BKS := fr_dr BKS hd; replace BKF := fr_dr BKF hd; replace HB := fr_st HB hd.below; clear hd; clear Qb Qe Qf Qg Qh Qi Qj Qk Qm Qn Qo Q0 Q1 Q2 Q3 Q4 Q5 Q6 Q7 Q8 Q9 Qd Qa Qp Qc Qq Qr Qs Qt Qu Qv; have Qb := qqf BKB.out; obtain ⟨Qe, Qf, Qg, Qh, Qi, Qj, Qk, Qm, Qn, Qo⟩ := frame_cells10 BKM.out; obtain ⟨Q0, Q1, Q2, Q3, Q4, Q5, Q6, Q7, Q8, Q9⟩ := qqt BKM.out; have Qd := qqf BKN.out; have Qa := qqe BKN.out 0; have Qp := qqf BKS.out; have Qc := qqe BKS.out 0; obtain ⟨Qq, Qr, Qs, Qt, Qu, Qv⟩ := frame_cells6 BKF.out) | ((with_reducible refine gate_store (t := 29) (p := 2) rfl ?_); refine store_event (t := 29) (p := 2) (v := ?vowz) (w1 := ((((((((((wc5.setCell ⟨gM, 0, none⟩ (.int .i64 0)).setCell ⟨gM, 1, none⟩ (.int .i64 0)).setCell ⟨gM, 2, none⟩ (.int .i64 0)).setCell ⟨gM, 3, none⟩ (.int .i64 0)).setCell ⟨gM, 4, none⟩ (.int .i64 0)).setCell ⟨gM, 5, none⟩ (.int .i64 0)).setCell ⟨gM, 6, none⟩ (.int .i64 0)).setCell ⟨gM, 7, none⟩ (.int .i64 0)).setCell ⟨gM, 8, none⟩ (.int .i64 0)).setCell ⟨gM, 9, none⟩ (.int .i64 0))) ?hg ?ho ?hn ?hr ?_; (case ho => rfl); (case hg => rfl); (case hn => rfl); (case hr => first | (go_simp; done) | (go_simp; rfl)); intro wz hw; have n_M := fr_put10 BKM hw; replace BKB := fr_far10 BKB NBM.out hw; replace BKN := fr_far10 BKN (Ne.symm NMN.out) hw; replace BKS := fr_far10 BKS (Ne.symm NMS.out) hw; replace BKF := fr_far10 BKF (Ne.symm NMF.out) hw; replace HB := fr_bset10 HB GEM hw; clear BKM; have BKM := n_M; clear n_M hw; clear Qb Qe Qf Qg Qh Qi Qj Qk Qm Qn Qo Q0 Q1 Q2 Q3 Q4 Q5 Q6 Q7 Q8 Q9 Qd Qa Qp Qc Qq Qr Qs Qt Qu Qv; have Qb := qqf BKB.out; obtain ⟨Qe, Qf, Qg, Qh, Qi, Qj, Qk, Qm, Qn, Qo⟩ := frame_cells10 BKM.out; obtain ⟨Q0, Q1, Q2, Q3, Q4, Q5, Q6, Q7, Q8, Q9⟩ := qqt BKM.out; have Qd := qqf BKN.out; have Qa := qqe BKN.out 0; have Qp := qqf BKS.out; have Qc := qqe BKS.out 0; obtain ⟨Qq, Qr, Qs, Qt, Qu, Qv⟩ := frame_cells6 BKF.out))
      refine bodyPost_ret (results_ct rfl _ _ gM 29 #[.int .i64 0, .int .i64 0, .int .i64 0, .int .i64 0, .int .i64 0, .int .i64 0, .int .i64 0, .int .i64 0, .int .i64 0, .int .i64 0] (0, 0) _ rfl BKM.out Tryd.underlying29 rfl (by kernel_rfl)) rfl ?_
      exact ⟨rfl, HB.out⟩
     ·have h_ := HH.out
      rw [if_neg t5] at h_
      clear HH
      have HH := Aside0.mk h_
      clear h_
      have D5 := Aside0.mk (show (s != 0) = false from Bool.eq_false_iff.mpr t5)
      have C5 := Aside0.mk (show (if (s != 0) = true then 4 else 0) = (0 : Int) from by rw [D5.out]; rfl)
      clear t5
      go_wp2_with (first | (go_at_call 26; (with_reducible refine (frame_c6.calls gB A0 l0 c0 s 0 _ Qb hle.out (Kd.C_below hr0.out HB.out) hc0.out HS.out C5.out).mono ?_); rintro e wc5 ⟨rfl, hd⟩; replace BKB := fr_dr BKB hd; replace BKM := fr_dr BKM hd; replace BKN := fr_dr BKN hd; replace BKS := fr_dr BKS hd; replace BKF := fr_dr BKF hd; replace HB := fr_st HB hd.below; clear hd; clear Qb Qe Qf Qg Qh Qi Qj Qk Qm Qn Qo Q0 Q1 Q2 Q3 Q4 Q5 Q6 Q7 Q8 Q9 Qd Qa Qp Qc Qq Qr Qs Qt Qu Qv; have Qb := qqf BKB.out; obtain ⟨Qe, Qf, Qg, Qh, Qi, Qj, Qk, Qm, Qn, Qo⟩ := frame_cells10 BKM.out; obtain ⟨Q0, Q1, Q2, Q3, Q4, Q5, Q6, Q7, Q8, Q9⟩ := qqt BKM.out; have Qd := qqf BKN.out; have Qa := qqe BKN.out 0; have Qp := qqf BKS.out; have Qc := qqe BKS.out 0; obtain ⟨Qq, Qr, Qs, Qt, Qu, Qv⟩ := frame_cells6 BKF.out))
      have hm := Aside0.mk (show rd l0 1 % 2 = 1 → 2 + rd l0 1 < (l0.length : Int) from by have := of_decide_eq_false D3.out; intro _; omega)
      rw [rounds_succ]
      by_cases t6 : (rd l0 1 % 2 == 1 && rd l0 (2 + rd l0 1) != 0) = true
      ·have h := HH.out
       rw [if_pos t6] at h
       simp only [Option.some.injEq, Prod.mk.injEq] at h
       obtain ⟨rfl, rfl, rfl, rfl, rfl, rfl, rfl, rfl, rfl, rfl, rfl⟩ := h
       have C6 := Aside0.mk (show (if (rd l0 1 % 2 == 1 && rd l0 (2 + rd l0 1) != 0) = true then 2 else 0) = (2 : Int) from by rw [t6]; rfl)
       clear t6 HH
       go_wp2_with (first | (go_at_call 27; (with_reducible refine (frame_c7.calls gB A0 l0 c0 gN (rd l0 1) 2 _ Qb hle.out qa0 qa1 Qd (Kd.C_below hr0.out HB.out) hm.out C6.out).mono ?_); rintro e wc6 ⟨rfl, hd⟩; replace BKB := fr_dr BKB hd; replace BKM := fr_dr BKM hd; replace BKN := fr_dr BKN hd; replace BKS := fr_dr BKS hd; replace BKF := fr_dr BKF hd; replace HB := fr_st HB hd.below; clear hd; clear Qb Qe Qf Qg Qh Qi Qj Qk Qm Qn Qo Q0 Q1 Q2 Q3 Q4 Q5 Q6 Q7 Q8 Q9 Qd Qa Qp Qc Qq Qr Qs Qt Qu Qv; have Qb := qqf BKB.out; obtain ⟨Qe, Qf, Qg, Qh, Qi, Qj, Qk, Qm, Qn, Qo⟩ := frame_cells10 BKM.out; obtain ⟨Q0, Q1, Q2, Q3, Q4, Q5, Q6, Q7, Q8, Q9⟩ := qqt BKM.out; have Qd := qqf BKN.out; have Qa := qqe BKN.out 0; have Qp := qqf BKS.out; have Qc := qqe BKS.out 0; obtain ⟨Qq, Qr, Qs, Qt, Qu, Qv⟩ := frame_cells6 BKF.out) | ((with_reducible refine gate_store (t := 29) (p := 2) rfl ?_); refine store_event (t := 29) (p := 2) (v := ?vowz) (w1 := ((((((((((wc6.setCell ⟨gM, 0, none⟩ (.int .i64 0)).setCell ⟨gM, 1, none⟩ (.int .i64 0)).setCell ⟨gM, 2, none⟩ (.int .i64 0)).setCell ⟨gM, 3, none⟩ (.int .i64 0)).setCell ⟨gM, 4, none⟩ (.int .i64 0)).setCell ⟨gM, 5, none⟩ (.int .i64 0)).setCell ⟨gM, 6, none⟩ (.int .i64 0)).setCell ⟨gM, 7, none⟩ (.int .i64 0)).setCell ⟨gM, 8, none⟩ (.int .i64 0)).setCell ⟨gM, 9, none⟩ (.int .i64 0))) ?hg ?ho ?hn ?hr ?_; (case ho => rfl); (case hg => rfl); (case hn => rfl); (case hr => first | (go_simp; done) | (go_simp; rfl)); intro wz hw; have n_M := fr_put10 BKM hw; replace BKB := fr_far10 BKB NBM.out hw; replace BKN := fr_far10 BKN (Ne.symm NMN.out) hw; replace BKS := fr_far10 BKS (Ne.symm NMS.out) hw; replace BKF := fr_far10 BKF (Ne.symm NMF.out) hw; replace HB := fr_bset10 HB GEM hw; clear BKM; have BKM := n_M; clear n_M hw; clear Qb Qe Qf Qg Qh Qi Qj Qk Qm Qn Qo Q0 Q1 Q2 Q3 Q4 Q5 Q6 Q7 Q8 Q9 Qd Qa Qp Qc Qq Qr Qs Qt Qu Qv; have Qb := qqf BKB.out; obtain ⟨Qe, Qf, Qg, Qh, Qi, Qj, Qk, Qm, Qn, Qo⟩ := frame_cells10 BKM.out; obtain ⟨Q0, Q1, Q2, Q3, Q4, Q5, Q6, Q7, Q8, Q9⟩ := qqt BKM.out; have Qd := qqf BKN.out; have Qa := qqe BKN.out 0; have Qp := qqf BKS.out; have Qc := qqe BKS.out 0; obtain ⟨Qq, Qr, Qs, Qt, Qu, Qv⟩ := frame_cells6 BKF.out))
       refine bodyPost_ret (results_ct rfl _ _ gM 29 #[.int .i64 0, .int .i64 0, .int .i64 0, .int .i64 0, .int .i64 0, .int .i64 0, .int .i64 0, .int .i64 0, .int .i64 0, .int .i64 0] (0, 0) _ rfl BKM.out Tryd.underlying29 rfl (by kernel_rfl)) rfl ?_
       exact ⟨rfl, HB.out⟩
      ·have h_ := HH.out
       rw [if_neg t6] at h_
       clear HH
       have HH := Aside0.mk h_
       clear h_
       have D6 := Aside0.mk (show (rd l0 1 % 2 == 1 && rd l0 (2 + rd l0 1) != 0) = false from Bool.eq_false_iff.mpr t6)
       have C6 := Aside0.mk (show (if (rd l0 1 % 2 == 1 && rd l0 (2 + rd l0 1) != 0) = true then 2 else 0) = (0 : Int) from by rw [D6.out]; rfl)
       clear t6
       exact absurd (hx s HS.out D1.out D2.out D3.out D4.out D5.out D6.out) id
set_option maxHeartbeats 8000000 in
set_option maxRecDepth 100000 in
theorem frame_Open.e7 (k : Nat) (A0 : Option Addr) (c0 : Nat) (l0 : List Int) (r1 r2 r3 r4 r5 r6 r7 r8 r9 r10 r11 : Int) (w : World) (hr0_ : Kd.C (Kd.int .u8) w A0 l0.length l0) (hc0_ : l0.length ≤ c0) (hl_ : l0.length < 1000000000) (hby_ : ∀ i : Int, 0 ≤ rd l0 i ∧ rd l0 i ≤ 255) (s : Int) (hs_ : octets_Sum.f l0 = some s) (d1 : decide ((l0.length : Int) < 4) = false) (d2 : (rd l0 0 != 197) = false) (d3 : decide ((l0.length : Int) < 2 + rd l0 1 + rd l0 1 % 2 + 2) = false) (d4 : decide (2 + rd l0 1 + rd l0 1 % 2 + 2 < (l0.length : Int)) = false) (d5 : (s != 0) = false) (d6 : (rd l0 1 % 2 == 1 && rd l0 (2 + rd l0 1) != 0) = false) (hG : Glob w) (h_ : msg_Get.f k ((l0.take (2 + rd l0 1).toNat).drop (2 : Int).toNat) = some (r1, r2, r3, r4, r5, r6, r7, r8, r9, r10, r11)) :
  Calls Tryd.prog 12 #[.slice A0 l0.length c0] w fun e w' => e = .returned (.tuple #[.agg #[.int .i64 r1, .int .i64 r2, .int .i64 r3, .int .i64 r4, .int .i64 r5, .int .i64 r6, .int .i64 r7, .int .i64 r8, .int .i64 r9, .int .i64 r10], .int .i64 r11]) ∧ Below w.heap.size w w' := by
 have hr0 := Aside0.mk hr0_
 have hc0 := Aside0.mk hc0_
 have hle := Aside0.mk (show l0.length ≤ 3000000000 from by omega)
 have hby := Aside0.mk hby_
 have HB := Aside0.mk (Below.refl w.heap.size w)
 have hu29 := Aside0.mk Tryd.underlying29
 have hmf : ∀ (fn : Fn) (first cap : Array Value) (w : World), (Instr.makeFunc fn first cap).run Tryd.prog w = .ok (.func fn first cap) w := fun _ _ _ _ => rfl
 have h4 : 4 ≤ l0.length := by have := of_decide_eq_false d1; omega
 have h2 := Aside0.mk (show 2 ≤ l0.length from by omega)
 have hfar := Aside0.mk (show 0 < l0.length → ∀ g, w.heap.size ≤ g → ∀ ad, A0 = some ad → ad.block ≠ g from fun h0 g hg ad e => Kd.far_C (0 : Int) hr0_ hg ad e h0)
 obtain ⟨qa0, qa1⟩ := hby_ 1
 have HS := Aside0.mk hs_
 clear hs_
 have hm := Aside0.mk (show rd l0 1 % 2 = 1 → 2 + rd l0 1 < (l0.length : Int) from by have := of_decide_eq_false d3; intro _; omega)
 have C1 := Aside0.mk (show (if decide ((l0.length : Int) < 4) = true then 3 else 0) = (0 : Int) from by rw [d1]; rfl)
 have C2 := Aside0.mk (show (if (rd l0 0 != 197) = true then 2 else 0) = (0 : Int) from by rw [d2]; rfl)
 have C3 := Aside0.mk (show (if decide ((l0.length : Int) < 2 + rd l0 1 + rd l0 1 % 2 + 2) = true then 3 else 0) = (0 : Int) from by rw [d3]; rfl)
 have C4 := Aside0.mk (show (if decide (2 + rd l0 1 + rd l0 1 % 2 + 2 < (l0.length : Int)) = true then 2 else 0) = (0 : Int) from by rw [d4]; rfl)
 have C5 := Aside0.mk (show (if (s != 0) = true then 4 else 0) = (0 : Int) from by rw [d5]; rfl)
 have C6 := Aside0.mk (show (if (rd l0 1 % 2 == 1 && rd l0 (2 + rd l0 1) != 0) = true then 2 else 0) = (0 : Int) from by rw [d6]; rfl)
 obtain ⟨y, hy⟩ : ∃ y_ : List Int, y_ = (l0.take (2 + rd l0 1).toNat).drop (2 : Int).toNat := ⟨_, rfl⟩
 rw [← hy] at h_
 have GG := Aside0.mk h_
 clear h_
 have q : 2 + rd l0 1 ≤ (l0.length : Int) := by have := of_decide_eq_false d3; omega
 have ql : (2 : Int) ≤ 2 + rd l0 1 := by omega
 obtain ⟨i0, hi0, _, hsz, _⟩ := info_parts info5
 have hcut := cut_mid (P := Tryd.prog) 31 5 .i64 .i64 Tryd.underlying31 hi0 1 hsz A0 l0.length c0 2 (2 + rd l0 1) (by omega) ql q hc0_
 have hrr := Kd.C_mid (lo := (2 : Int).toNat) (hi := (2 + rd l0 1 : Int).toNat) (c := c0) hr0_ (by omega) (by omega) hc0_
 obtain ⟨A1, hA1⟩ : ∃ A1, A1 = (if c0 = (2 : Int).toNat then A0 else (A0 : Option Addr).map (·.add ((2 : Int).toNat * 1))) := ⟨_, rfl⟩
 obtain ⟨c1, hc1⟩ : ∃ c1, c1 = c0 - (2 : Int).toNat := ⟨_, rfl⟩
 have hy1 : y.length = (2 + rd l0 1 : Int).toNat - (2 : Int).toNat := (by rw [hy, List.length_drop, List.length_take] <;> omega)
 rw [show ((l0).take (2 + rd l0 1 : Int).toNat).drop (2 : Int).toNat = y from hy.symm] at hrr
 replace hrr : Kd.C (Kd.int .u8) _ A1 y.length y := (by rw [hA1]; exact hrr)
 rw [← hy1, ← hA1, ← hc1] at hcut
 have HR := Aside0.mk hrr
 have HC1 := Aside0.mk (show y.length ≤ c1 from by rw [hy1, hc1]; exact Nat.sub_le_sub_right (Nat.le_trans (by omega) hc0_) _)
 clear hrr hi0 hsz hc1 hA1 hy1 hy ql q
 clear hr0_ hc0_ hl_ hby_ d1 d2 d3 d4 d5 d6
 go_enter Tryd.func12, Tryd.ntmps12
 go_wp2_with (first | ((with_reducible refine qqs (N := 8) rfl ?_); refine Kd.event_run rfl (v := .func (.func 20) #[] #[.pointer (some ⟨gN, 0, none⟩)]) (w1 := _) ?hr ?_; (case hr => rfl)) | ((with_reducible refine qqs (N := 1) rfl ?_); refine box_event ?hg (N := 1) ?hd (cs := #[(.slice A0 l0.length c0)]) (t := 31) ?hr ?_; (case hd => rfl); (case hg => rfl); (case hr => first | (go_simp; done) | (go_simp; rfl)); intro gB hg wB hbox hb; have GEB := fr_sz HB hg; replace HB := fr_st HB hb; have BKB := Aside0.mk hbox; clear hb hbox hg; skip; have Qb := qqf BKB.out) | ((with_reducible refine qqs (N := 2) rfl ?_); refine box_event ?hg (N := 2) ?hd (cs := #[.int .i64 0, .int .i64 0, .int .i64 0, .int .i64 0, .int .i64 0, .int .i64 0, .int .i64 0, .int .i64 0, .int .i64 0, .int .i64 0]) (t := 29) ?hr ?_; (case hd => rfl); (case hg => rfl); (case hr => first | (go_simp; done) | (go_simp; rfl)); intro gM hg wM hbox hb; have GEM := fr_sz HB hg; have NBM := fr_ne BKB hg; replace BKB := fr_bl BKB hb; replace HB := fr_st HB hb; have BKM := Aside0.mk hbox; clear hb hbox hg; clear Qb; have Qb := qqf BKB.out; obtain ⟨Qe, Qf, Qg, Qh, Qi, Qj, Qk, Qm, Qn, Qo⟩ := frame_cells10 BKM.out; obtain ⟨Q0, Q1, Q2, Q3, Q4, Q5, Q6, Q7, Q8, Q9⟩ := qqt BKM.out) | ((with_reducible refine qqs (N := 4) rfl ?_); refine box_event ?hg (N := 4) ?hd (cs := #[.int .i64 0]) (t := 3) ?hr ?_; (case hd => rfl); (case hg => rfl); (case hr => first | (go_simp; done) | (go_simp; rfl)); intro gN hg wN hbox hb; have GEN := fr_sz HB hg; have NBN := fr_ne BKB hg; replace BKB := fr_bl BKB hb; have NMN := fr_ne BKM hg; replace BKM := fr_bl BKM hb; replace HB := fr_st HB hb; have BKN := Aside0.mk hbox; clear hb hbox hg; clear Qb Qe Qf Qg Qh Qi Qj Qk Qm Qn Qo Q0 Q1 Q2 Q3 Q4 Q5 Q6 Q7 Q8 Q9; have Qb := qqf BKB.out; obtain ⟨Qe, Qf, Qg, Qh, Qi, Qj, Qk, Qm, Qn, Qo⟩ := frame_cells10 BKM.out; obtain ⟨Q0, Q1, Q2, Q3, Q4, Q5, Q6, Q7, Q8, Q9⟩ := qqt BKM.out; have Qd := qqf BKN.out; have Qa := qqe BKN.out 0) | ((with_reducible refine gate_store (t := 3) (p := 4) rfl ?_); refine store_event (t := 3) (p := 4) (v := ?vow3b) (w1 := (wN.setCell ⟨gN, 0, none⟩ (.int .i64 0))) ?hg ?ho ?hn ?hr ?_; (case ho => rfl); (case hg => rfl); (case hn => rfl); (case hr => first | (go_simp; done) | (go_simp; rfl)); intro w3b hw; have n_N := fr_put1 BKN hw; replace BKB := fr_far1 BKB NBN.out hw; replace BKM := fr_far1 BKM NMN.out hw; replace HB := fr_bset1 HB GEN hw; clear BKN; have BKN := n_N; clear n_N hw; clear Qb Qe Qf Qg Qh Qi Qj Qk Qm Qn Qo Q0 Q1 Q2 Q3 Q4 Q5 Q6 Q7 Q8 Q9 Qd Qa; have Qb := qqf BKB.out; obtain ⟨Qe, Qf, Qg, Qh, Qi, Qj, Qk, Qm, Qn, Qo⟩ := frame_cells10 BKM.out; obtain ⟨Q0, Q1, Q2, Q3, Q4, Q5, Q6, Q7, Q8, Q9⟩ := qqt BKM.out; have Qd := qqf BKN.out; have Qa := qqe BKN.out 0) | ((with_reducible refine qqs (N := 5) rfl ?_); refine box_event ?hg (N := 5) ?hd (cs := #[.nilFunc]) (t := 46) ?hr ?_; (case hd => rfl); (case hg => rfl); (case hr => first | (go_simp; done) | (go_simp; rfl)); intro gS hg wS hbox hb; have GES := fr_sz HB hg; have NBS := fr_ne BKB hg; replace BKB := fr_bl BKB hb; have NMS := fr_ne BKM hg; replace BKM := fr_bl BKM hb; have NNS := fr_ne BKN hg; replace BKN := fr_bl BKN hb; replace HB := fr_st HB hb; have BKS := Aside0.mk hbox; clear hb hbox hg; clear Qb Qe Qf Qg Qh Qi Qj Qk Qm Qn Qo Q0 Q1 Q2 Q3 Q4 Q5 Q6 Q7 Q8 Q9 Qd Qa; have Qb := qqf BKB.out; obtain ⟨Qe, Qf, Qg, Qh, Qi, Qj, Qk, Qm, Qn, Qo⟩ := frame_cells10 BKM.out; obtain ⟨Q0, Q1, Q2, Q3, Q4, Q5, Q6, Q7, Q8, Q9⟩ := qqt BKM.out; have Qd := qqf BKN.out; have Qa := qqe BKN.out 0; have Qp := qqf BKS.out; have Qc := qqe BKS.out 0) | ((with_reducible refine gate_store (t := 46) (p := 5) rfl ?_); refine store_event (t := 46) (p := 5) (v := ?vow4b) (w1 := (wS.setCell ⟨gS, 0, none⟩ (.func (.func 20) #[] #[.pointer (some ⟨gN, 0, none⟩)]))) ?hg ?ho ?hn ?hr ?_; (case ho => rfl); (case hg => rfl); (case hn => rfl); (case hr => first | (go_simp; done) | (go_simp; rfl)); intro w4b hw; have n_S := fr_put1 BKS hw; replace BKB := fr_far1 BKB NBS.out hw; replace BKM := fr_far1 BKM NMS.out hw; replace BKN := fr_far1 BKN NNS.out hw; replace HB := fr_bset1 HB GES hw; clear BKS; have BKS := n_S; clear n_S hw; clear Qb Qe Qf Qg Qh Qi Qj Qk Qm Qn Qo Q0 Q1 Q2 Q3 Q4 Q5 Q6 Q7 Q8 Q9 Qd Qa Qp Qc; have Qb := qqf BKB.out; obtain ⟨Qe, Qf, Qg, Qh, Qi, Qj, Qk, Qm, Qn, Qo⟩ := frame_cells10 BKM.out; obtain ⟨Q0, Q1, Q2, Q3, Q4, Q5, Q6, Q7, Q8, Q9⟩ := qqt BKM.out; have Qd := qqf BKN.out; have Qa := qqe BKN.out 0; have Qp := qqf BKS.out; have Qc := qqe BKS.out 0) | ((with_reducible refine qqs (N := 15) rfl ?_); refine slit_event ?hg (N := 15) ?hd (n := 6) (cs := #[.func (.func 21) #[] #[.pointer (some ⟨gB, 0, none⟩)], .func (.func 23) #[] #[.pointer (some ⟨gB, 0, none⟩), .pointer (some ⟨gN, 0, none⟩)], .func (.func 24) #[] #[.pointer (some ⟨gB, 0, none⟩), .pointer (some ⟨gS, 0, none⟩)], .func (.func 25) #[] #[.pointer (some ⟨gB, 0, none⟩), .pointer (some ⟨gS, 0, none⟩)], .func (.func 26) #[] #[.pointer (some ⟨gB, 0, none⟩)], .func (.func 27) #[] #[.pointer (some ⟨gN, 0, none⟩), .pointer (some ⟨gB, 0, none⟩)]]) (t := 48) ?hr ?_; (case hd => rfl); (case hg => rfl); (case hr => first | (go_simp; done) | (go_simp; rfl)); intro gF hg wF hbox hb; have GEF := fr_sz HB hg; have NBF := fr_ne BKB hg; replace BKB := fr_bl BKB hb; have NMF := fr_ne BKM hg; replace BKM := fr_bl BKM hb; have NNF := fr_ne BKN hg; replace BKN := fr_bl BKN hb; have NSF := fr_ne BKS hg; replace BKS := fr_bl BKS hb; replace HB := fr_st HB hb; have BKF := Aside0.mk hbox; clear hb hbox hg; clear Qb Qe Qf Qg Qh Qi Qj Qk Qm Qn Qo Q0 Q1 Q2 Q3 Q4 Q5 Q6 Q7 Q8 Q9 Qd Qa Qp Qc; have Qb := qqf BKB.out; obtain ⟨Qe, Qf, Qg, Qh, Qi, Qj, Qk, Qm, Qn, Qo⟩ := frame_cells10 BKM.out; obtain ⟨Q0, Q1, Q2, Q3, Q4, Q5, Q6, Q7, Q8, Q9⟩ := qqt BKM.out; have Qd := qqf BKN.out; have Qa := qqe BKN.out 0; have Qp := qqf BKS.out; have Qc := qqe BKS.out 0; obtain ⟨Qq, Qr, Qs, Qt, Qu, Qv⟩ := frame_cells6 BKF.out))
 refine wp_loop_rounds 7 ?_
 rw [rounds_succ]
 go_wp2_with (first | (go_at_call 21; (with_reducible refine (frame_c2.calls gB A0 l0 c0 0 _ Qb hle.out C1.out).mono ?_); rintro e wc1 ⟨rfl, hd⟩; replace BKB := fr_dr BKB hd; replace BKM := fr_dr BKM hd; replace BKN := fr_dr BKN hd; replace BKS := fr_dr BKS hd; replace BKF := fr_dr BKF hd; replace HB := fr_st HB hd.below; clear hd; clear Qb Qe Qf Qg Qh Qi Qj Qk Qm Qn Qo Q0 Q1 Q2 Q3 Q4 Q5 Q6 Q7 Q8 Q9 Qd Qa Qp Qc Qq Qr Qs Qt Qu Qv; have Qb := qqf BKB.out; obtain ⟨Qe, Qf, Qg, Qh, Qi, Qj, Qk, Qm, Qn, Qo⟩ := frame_cells10 BKM.out; obtain ⟨Q0, Q1, Q2, Q3, Q4, Q5, Q6, Q7, Q8, Q9⟩ := qqt BKM.out; have Qd := qqf BKN.out; have Qa := qqe BKN.out 0; have Qp := qqf BKS.out; have Qc := qqe BKS.out 0; obtain ⟨Qq, Qr, Qs, Qt, Qu, Qv⟩ := frame_cells6 BKF.out))
 rw [rounds_succ]
 go_wp2_with (first | (go_at_call 23; (with_reducible refine (frame_c3.calls gB A0 l0 c0 gN 0 0 _ Qb hle.out NBN.out (by (with_reducible repeat (first | refine qqg ?_ _ | refine qqk ?_ | refine qqh ?_ _)); exact BKN.out) (Kd.C_below hr0.out (by repeat (first | (with_reducible first | exact HB.out | apply qqc | apply qqa | apply qqb) | exact HB.out))) h2.out hby.out (hfar.out (by have := h2.out; omega) gN GEN.out) C2.out).mono ?_); rintro e wc2 ⟨rfl, hd⟩; have n_N := Aside0.mk (drawn_blk hd (qqv (cs' := #[.int .i64 (rd l0 1)]) BKN.out 0 (.int .i64 (rd l0 1)) rfl)); have n_B := Aside0.mk (drawn_blk hd (qqq BKB.out NBN.out (.int .i64 (rd l0 1)))); have n_M := Aside0.mk (drawn_blk hd (qqq BKM.out NMN.out (.int .i64 (rd l0 1)))); have n_S := Aside0.mk (drawn_blk hd (qqq BKS.out (Ne.symm NNS.out) (.int .i64 (rd l0 1)))); have n_F := Aside0.mk (drawn_blk hd (qqq BKF.out (Ne.symm NNF.out) (.int .i64 (rd l0 1)))); have n0_ := Aside0.mk (below_step (qqd HB.out GEN.out) hd.below); clear HB; have HB := n0_; clear n0_ hd; clear BKB; have BKB := n_B; clear n_B; clear BKM; have BKM := n_M; clear n_M; clear BKN; have BKN := n_N; clear n_N; clear BKS; have BKS := n_S; clear n_S; clear BKF; have BKF := n_F; clear n_F; clear Qb Qe Qf Qg Qh Qi Qj Qk Qm Qn Qo Q0 Q1 Q2 Q3 Q4 Q5 Q6 Q7 Q8 Q9 Qd Qa Qp Qc Qq Qr Qs Qt Qu Qv; have Qb := qqf BKB.out; obtain ⟨Qe, Qf, Qg, Qh, Qi, Qj, Qk, Qm, Qn, Qo⟩ := frame_cells10 BKM.out; obtain ⟨Q0, Q1, Q2, Q3, Q4, Q5, Q6, Q7, Q8, Q9⟩ := qqt BKM.out; have Qd := qqf BKN.out; have Qa := qqe BKN.out 0; have Qp := qqf BKS.out; have Qc := qqe BKS.out 0; obtain ⟨Qq, Qr, Qs, Qt, Qu, Qv⟩ := frame_cells6 BKF.out))
 rw [rounds_succ]
 go_wp2_with (first | (go_at_call 24; (with_reducible refine (frame_c4.calls gB A0 l0 c0 gN gS (rd l0 1) 0 _ Qb hle.out qa0 qa1 Qd Qp C3.out).mono ?_); rintro e wc3 ⟨rfl, hd⟩; replace BKB := fr_dr BKB hd; replace BKM := fr_dr BKM hd; replace BKN := fr_dr BKN hd; replace BKS := fr_dr BKS hd; replace BKF := fr_dr BKF hd; replace HB := fr_st HB hd.below; clear hd; clear Qb Qe Qf Qg Qh Qi Qj Qk Qm Qn Qo Q0 Q1 Q2 Q3 Q4 Q5 Q6 Q7 Q8 Q9 Qd Qa Qp Qc Qq Qr Qs Qt Qu Qv; have Qb := qqf BKB.out; obtain ⟨Qe, Qf, Qg, Qh, Qi, Qj, Qk, Qm, Qn, Qo⟩ := frame_cells10 BKM.out; obtain ⟨Q0, Q1, Q2, Q3, Q4, Q5, Q6, Q7, Q8, Q9⟩ := qqt BKM.out; have Qd := qqf BKN.out; have Qa := qqe BKN.out 0; have Qp := qqf BKS.out; have Qc := qqe BKS.out 0; obtain ⟨Qq, Qr, Qs, Qt, Qu, Qv⟩ := frame_cells6 BKF.out))
 rw [rounds_succ]
 go_wp2_with (first | (go_at_call 25; (with_reducible refine (frame_c5.calls gB A0 l0 c0 gN gS (rd l0 1) 0 _ Qb hle.out qa0 qa1 Qd Qp C4.out).mono ?_); rintro e wc4 ⟨rfl, hd⟩; replace BKB := fr_dr BKB hd; replace BKM := fr_dr BKM hd; replace BKN := fr_dr BKN hd; replace BKS := fr_dr BKS hd; replace BKF := fr_dr BKF hd; replace HB := fr_st HB hd.below; clear hd; clear Qb Qe Qf Qg Qh Qi Qj Qk Qm Qn Qo Q0 Q1 Q2 Q3 Q4 Q5 Q6 Q7 Q8 Q9 Qd Qa Qp Qc Qq Qr Qs Qt Qu Qv; have Qb := qqf BKB.out; obtain ⟨Qe, Qf, Qg, Qh, Qi, Qj, Qk, Qm, Qn, Qo⟩ := frame_cells10 BKM.out; obtain ⟨Q0, Q1, Q2, Q3, Q4, Q5, Q6, Q7, Q8, Q9⟩ := qqt BKM.out; have Qd := qqf BKN.out; have Qa := qqe BKN.out 0; have Qp := qqf BKS.out; have Qc := qqe BKS.out 0; obtain ⟨Qq, Qr, Qs, Qt, Qu, Qv⟩ := frame_cells6 BKF.out))
 rw [rounds_succ]
 go_wp2_with (first | (go_at_call 26; (with_reducible refine (frame_c6.calls gB A0 l0 c0 s 0 _ Qb hle.out (Kd.C_below hr0.out HB.out) hc0.out HS.out C5.out).mono ?_); rintro e wc5 ⟨rfl, hd⟩; replace BKB := fr_dr BKB hd; replace BKM := fr_dr BKM hd; replace BKN := fr_dr BKN hd; replace BKS := fr_dr BKS hd; replace BKF := fr_dr BKF hd; replace HB := fr_st HB hd.below; clear hd; clear Qb Qe Qf Qg Qh Qi Qj Qk Qm Qn Qo Q0 Q1 Q2 Q3 Q4 Q5 Q6 Q7 Q8 Q9 Qd Qa Qp Qc Qq Qr Qs Qt Qu Qv; have Qb := qqf BKB.out; obtain ⟨Qe, Qf, Qg, Qh, Qi, Qj, Qk, Qm, Qn, Qo⟩ := frame_cells10 BKM.out; obtain ⟨Q0, Q1, Q2, Q3, Q4, Q5, Q6, Q7, Q8, Q9⟩ := qqt BKM.out; have Qd := qqf BKN.out; have Qa := qqe BKN.out 0; have Qp := qqf BKS.out; have Qc := qqe BKS.out 0; obtain ⟨Qq, Qr, Qs, Qt, Qu, Qv⟩ := frame_cells6 BKF.out))
 rw [rounds_succ]
 go_wp2_with (first | (go_at_call 27; (with_reducible refine (frame_c7.calls gB A0 l0 c0 gN (rd l0 1) 0 _ Qb hle.out qa0 qa1 Qd (Kd.C_below hr0.out HB.out) hm.out C6.out).mono ?_); rintro e wc6 ⟨rfl, hd⟩; replace BKB := fr_dr BKB hd; replace BKM := fr_dr BKM hd; replace BKN := fr_dr BKN hd; replace BKS := fr_dr BKS hd; replace BKF := fr_dr BKF hd; replace HB := fr_st HB hd.below; clear hd; clear Qb Qe Qf Qg Qh Qi Qj Qk Qm Qn Qo Q0 Q1 Q2 Q3 Q4 Q5 Q6 Q7 Q8 Q9 Qd Qa Qp Qc Qq Qr Qs Qt Qu Qv; have Qb := qqf BKB.out; obtain ⟨Qe, Qf, Qg, Qh, Qi, Qj, Qk, Qm, Qn, Qo⟩ := frame_cells10 BKM.out; obtain ⟨Q0, Q1, Q2, Q3, Q4, Q5, Q6, Q7, Q8, Q9⟩ := qqt BKM.out; have Qd := qqf BKN.out; have Qa := qqe BKN.out 0; have Qp := qqf BKS.out; have Qc := qqe BKS.out 0; obtain ⟨Qq, Qr, Qs, Qt, Qu, Qv⟩ := frame_cells6 BKF.out))
 rw [rounds_succ]
 go_wp2_with (first | (go_at_call 28; (with_reducible refine (msg_Get.calls k A1 c1 y r1 r2 r3 r4 r5 r6 r7 r8 r9 r10 r11 _ (Kd.C_below HR.out HB.out) HC1.out ?sideG_ GG.out).mono ?_); (case sideG_ => exact hG.below rfl HB.out); rintro e w9 ⟨rfl, hb⟩; replace BKB := fr_bl BKB hb; replace BKM := fr_bl BKM hb; replace BKN := fr_bl BKN hb; replace BKS := fr_bl BKS hb; replace BKF := fr_bl BKF hb; replace HB := fr_st HB hb; clear hb; clear Qb Qe Qf Qg Qh Qi Qj Qk Qm Qn Qo Q0 Q1 Q2 Q3 Q4 Q5 Q6 Q7 Q8 Q9 Qd Qa Qp Qc Qq Qr Qs Qt Qu Qv; have Qb := qqf BKB.out; obtain ⟨Qe, Qf, Qg, Qh, Qi, Qj, Qk, Qm, Qn, Qo⟩ := frame_cells10 BKM.out; obtain ⟨Q0, Q1, Q2, Q3, Q4, Q5, Q6, Q7, Q8, Q9⟩ := qqt BKM.out; have Qd := qqf BKN.out; have Qa := qqe BKN.out 0; have Qp := qqf BKS.out; have Qc := qqe BKS.out 0; obtain ⟨Qq, Qr, Qs, Qt, Qu, Qv⟩ := frame_cells6 BKF.out) | ((with_reducible refine gate_store (t := 29) (p := 2) rfl ?_); refine store_event (t := 29) (p := 2) (v := ?vowz) (w1 := ((((((((((w9.setCell ⟨gM, 0, none⟩ (.int .i64 r1)).setCell ⟨gM, 1, none⟩ (.int .i64 r2)).setCell ⟨gM, 2, none⟩ (.int .i64 r3)).setCell ⟨gM, 3, none⟩ (.int .i64 r4)).setCell ⟨gM, 4, none⟩ (.int .i64 r5)).setCell ⟨gM, 5, none⟩ (.int .i64 r6)).setCell ⟨gM, 6, none⟩ (.int .i64 r7)).setCell ⟨gM, 7, none⟩ (.int .i64 r8)).setCell ⟨gM, 8, none⟩ (.int .i64 r9)).setCell ⟨gM, 9, none⟩ (.int .i64 r10))) ?hg ?ho ?hn ?hr ?_; (case ho => rfl); (case hg => rfl); (case hn => rfl); (case hr => first | (go_simp; done) | (go_simp; rfl)); intro wz hw; have n_M := fr_put10 BKM hw; replace BKB := fr_far10 BKB NBM.out hw; replace BKN := fr_far10 BKN (Ne.symm NMN.out) hw; replace BKS := fr_far10 BKS (Ne.symm NMS.out) hw; replace BKF := fr_far10 BKF (Ne.symm NMF.out) hw; replace HB := fr_bset10 HB GEM hw; clear BKM; have BKM := n_M; clear n_M hw; clear Qb Qe Qf Qg Qh Qi Qj Qk Qm Qn Qo Q0 Q1 Q2 Q3 Q4 Q5 Q6 Q7 Q8 Q9 Qd Qa Qp Qc Qq Qr Qs Qt Qu Qv; have Qb := qqf BKB.out; obtain ⟨Qe, Qf, Qg, Qh, Qi, Qj, Qk, Qm, Qn, Qo⟩ := frame_cells10 BKM.out; obtain ⟨Q0, Q1, Q2, Q3, Q4, Q5, Q6, Q7, Q8, Q9⟩ := qqt BKM.out; have Qd := qqf BKN.out; have Qa := qqe BKN.out 0; have Qp := qqf BKS.out; have Qc := qqe BKS.out 0; obtain ⟨Qq, Qr, Qs, Qt, Qu, Qv⟩ := frame_cells6 BKF.out))
 refine bodyPost_ret (results_ct rfl _ _ gM 29 #[.int .i64 r1, .int .i64 r2, .int .i64 r3, .int .i64 r4, .int .i64 r5, .int .i64 r6, .int .i64 r7, .int .i64 r8, .int .i64 r9, .int .i64 r10] (0, 0) _ rfl BKM.out Tryd.underlying29 rfl (by kernel_rfl)) rfl ?_
 exact ⟨rfl, HB.out⟩
set_option maxHeartbeats 8000000 in
set_option maxRecDepth 100000 in
theorem frame_Open.calls (k : Nat) (A0 : Option Addr) (c0 : Nat) (l0 : List Int) (r1 : Int) (r2 : Int) (r3 : Int) (r4 : Int) (r5 : Int) (r6 : Int) (r7 : Int) (r8 : Int) (r9 : Int) (r10 : Int) (r11 : Int) (w : World) (hr0 : Kd.C (Kd.int .u8) w A0 l0.length l0) (hc0 : l0.length ≤ c0) (hG : Glob w) (h : frame_Open.f k l0 = some (r1, r2, r3, r4, r5, r6, r7, r8, r9, r10, r11)) :
  Calls Tryd.prog 12 #[.slice A0 l0.length c0] w fun e w' => e = .returned (.tuple #[.agg #[.int .i64 r1, .int .i64 r2, .int .i64 r3, .int .i64 r4, .int .i64 r5, .int .i64 r6, .int .i64 r7, .int .i64 r8, .int .i64 r9, .int .i64 r10], .int .i64 r11]) ∧ Below w.heap.size w w' := by
 by_cases hx : ∃ s, octets_Sum.f l0 = some s ∧ decide ((l0.length : Int) < 4) = false ∧ (rd l0 0 != 197) = false ∧ decide ((l0.length : Int) < 2 + rd l0 1 + rd l0 1 % 2 + 2) = false ∧ decide (2 + rd l0 1 + rd l0 1 % 2 + 2 < (l0.length : Int)) = false ∧ (s != 0) = false ∧ (rd l0 1 % 2 == 1 && rd l0 (2 + rd l0 1) != 0) = false
 ·obtain ⟨s, hs, d1, d2, d3, d4, d5, d6⟩ := hx
  unfold frame_Open.f at h
  by_cases g1 : l0.length < 1000000000
  case neg => rw [if_neg g1] at h; exact absurd h (by simp)
  rw [if_pos g1] at h
  by_cases g2 : (l0.all fun x => decide (0 ≤ x) && decide (x ≤ 255)) = true
  case neg => rw [if_neg g2] at h; exact absurd h (by simp)
  rw [if_pos g2, if_neg (of_decide_eq_false d1), if_neg (Bool.eq_false_iff.mp d2), if_neg (of_decide_eq_false d3), if_neg (of_decide_eq_false d4), hs] at h
  simp only [Option.bind_some] at h
  rw [if_neg (Bool.eq_false_iff.mp d5), if_neg (Bool.eq_false_iff.mp d6)] at h
  exact frame_Open.e7 k A0 c0 l0 r1 r2 r3 r4 r5 r6 r7 r8 r9 r10 r11 w hr0 hc0 g1 (frame_bytes g2) s hs d1 d2 d3 d4 d5 d6 hG h
 ·exact frame_Open.errs k A0 c0 l0 r1 r2 r3 r4 r5 r6 r7 r8 r9 r10 r11 w hr0 hc0 (fun s hs d1 d2 d3 d4 d5 d6 => hx ⟨s, hs, d1, d2, d3, d4, d5, d6⟩) h
end Go.Proofs.YtpaoofkahhhjaaaDoor.All
