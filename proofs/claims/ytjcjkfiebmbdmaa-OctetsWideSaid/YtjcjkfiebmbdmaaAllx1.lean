/- Contracts of Go functions that this seat comes to, each with a plain function that tells its answers; conditions: those that each contract names. Written by a program of this session (wip/print) over the print words. -/
import Derived.Test.YtjcjkfiebmbdmaaAllx0
namespace Go.Proofs.Ytjcjkfiebmbdmaa.All
open Go.RowKit Go.Proofs.YtjcjkfiebmbdmaaW.PrintWords Go.Proofs.YtjcjkfiebmbdmaaW.PrintLast Go.Proofs.YtjcjkfiebmbdmaaW.PrintMore
attribute [local go_sem] max2_int min2_int max_two min_two max_three min_three max_four min_four   -- for this text's walks alone
set_option linter.unusedVariables false
set_option linter.unusedSimpArgs false

/-! ### octets_Sum: function 12 -/
namespace OM

/-- the raw sum: high, low, high, .. -/
def SP : Bool → List Int → Int
  | _, [] => 0
  | true, a :: t => 256 * a + SP false t
  | false, a :: t => a + SP true t
def par (p : Bool) : List Int → Bool
  | [] => p
  | _ :: t => par (!p) t
theorem SP_append (p : Bool) (l m : List Int) : SP p (l ++ m) = SP p l + SP (par p l) m := by
  induction l generalizing p with
  | nil => simp [SP, par]
  | cons a t ih => cases p <;> simp [SP, par, ih, Int.add_assoc]
theorem par_len (p : Bool) (l : List Int) : par p l = if l.length % 2 = 0 then p else !p := by
  induction l generalizing p with
  | nil => simp [par]
  | cons a t ih =>
    rw [par, ih]
    have : (a :: t).length % 2 = 0 ↔ ¬ t.length % 2 = 0 := by simp only [List.length_cons]; omega
    by_cases h : t.length % 2 = 0
    · rw [if_pos h, if_neg (by rw [this]; exact fun k => k h)]
    · rw [if_neg h, if_pos (this.mpr h), Bool.not_not]
def wt (p : Bool) (i : Nat) : Int := if (i % 2 = 0) = (p = true) then 256 else 1
theorem SP_set (p : Bool) (l : List Int) (i : Nat) (v : Int) (h : i < l.length) : SP p (l.set i v) = SP p l + wt p i * (v - l.getD i 0) := by
  induction l generalizing p i with
  | nil => simp at h
  | cons a t ih =>
    cases i with
    | zero => cases p <;> simp [SP, wt] <;> omega
    | succ i =>
      have hw : wt (!p) i = wt p (i + 1) := by
        unfold wt
        have : (i + 1) % 2 = 0 ↔ ¬ i % 2 = 0 := by omega
        cases p <;> by_cases h : i % 2 = 0 <;> simp [this, h]
      have := ih (!p) i (by simpa using h)
      rw [hw] at this
      cases p <;> simp [SP] at this ⊢ <;> omega
theorem SP_nonneg (p : Bool) (l : List Int) (h : ∀ x ∈ l, 0 ≤ x ∧ x ≤ 255) : 0 ≤ SP p l ∧ SP p l ≤ 65280 * l.length := by
  induction l generalizing p with
  | nil => simp [SP]
  | cons a t ih =>
    have h1 := h a (by simp)
    have h2 := ih (!p) (fun x hx => h x (by simp [hx]))
    cases p <;> simp [SP] at h2 ⊢ <;> omega
/-- folded -/
def F (n : Int) : Int := if n = 0 then 0 else (n - 1) % 65535 + 1
theorem F_small (n : Int) (h0 : 0 ≤ n) (h : n ≤ 65535) : F n = n := by unfold F; split <;> omega
theorem F_step (n : Int) (_h : 65535 < n) : F (n / 65536 + n % 65536) = F n := by
  unfold F
  rw [if_neg (by omega), if_neg (by omega)]
  omega
theorem F_range (n : Int) (h : 0 ≤ n) : 0 ≤ F n ∧ F n ≤ 65535 := by unfold F; split <;> omega
def ck (l : List Int) : Int := 65535 - F (SP true l)
theorem ck_zero_iff (l : List Int) (h : ∀ x ∈ l, 0 ≤ x ∧ x ≤ 255) : ck l = 0 ↔ SP true l % 65535 = 0 ∧ 0 < SP true l := by
  have := SP_nonneg true l h
  unfold ck F
  split <;> omega
theorem ck_self (l : List Int) (h : ∀ x ∈ l, 0 ≤ x ∧ x ≤ 255) (he : l.length % 2 = 0) : ck (l ++ [ck l / 256 % 256, ck l % 256]) = 0 := by
  have hr := F_range (SP true l) (SP_nonneg true l h).1
  have h1 := (SP_nonneg true l h).1
  rw [ck_zero_iff]
  · rw [SP_append, par_len, if_pos he]
    simp only [SP]
    unfold ck
    have : F (SP true l) = if SP true l = 0 then 0 else (SP true l - 1) % 65535 + 1 := rfl
    split at this <;> omega
  · intro x hx
    simp only [List.mem_append, List.mem_cons, List.not_mem_nil, or_false] at hx
    rcases hx with hx | hx | hx
    · exact h x hx
    · omega
    · omega
theorem ck_set (l : List Int) (h : ∀ x ∈ l, 0 ≤ x ∧ x ≤ 255) (i : Nat) (hi : i < l.length) (v : Int) (hv : 0 ≤ v ∧ v ≤ 255) (hne : v ≠ l.getD i 0) (h0 : ck l = 0) : ck (l.set i v) ≠ 0 := by
  have hl : ∀ x ∈ l.set i v, 0 ≤ x ∧ x ≤ 255 := by
    intro x hx
    rcases List.mem_or_eq_of_mem_set hx with hx | rfl
    · exact h x hx
    · exact hv
  have hb : 0 ≤ l.getD i 0 ∧ l.getD i 0 ≤ 255 := by
    have : l.getD i 0 = l[i] := by simp [List.getD, hi]
    rw [this]; exact h _ (List.getElem_mem hi)
  rw [ck_zero_iff l h] at h0
  rw [Ne, ck_zero_iff _ hl, SP_set _ _ _ _ hi]
  unfold wt
  generalize l.getD i 0 = o at *
  split <;> omega
end OM

theorem OM.SP_take (l : List Int) (k : Nat) (h : k < l.length) : OM.SP true (l.take (k + 1)) = OM.SP true (l.take k) + (if k % 2 = 0 then 256 * rd l k else rd l k) := by
  rw [List.take_succ_eq_append_getElem h, OM.SP_append, OM.par_len, List.length_take, Nat.min_eq_left (by omega)]
  have e : rd l (k : Int) = l[k] := by simp [rd, List.getD, h]
  rw [e]
  by_cases hk : k % 2 = 0
  · simp [hk, OM.SP]
  · simp [hk, OM.SP]
theorem OM.rd_range (l : List Int) (k : Nat) (h : k < l.length) (hb : ∀ x ∈ l, 0 ≤ x ∧ x ≤ 255) : 0 ≤ rd l k ∧ rd l k ≤ 255 := by
  have e : rd l (k : Int) = l[k] := by simp [rd, List.getD, h]
  rw [e]; exact hb _ (List.getElem_mem h)
theorem OM.SP_range (l : List Int) (k : Nat) (hl : l.length < 1099511627776) (hb : ∀ x ∈ l, 0 ≤ x ∧ x ≤ 255) : 0 ≤ OM.SP true (l.take k) ∧ OM.SP true (l.take k) ≤ 72057594037927936 := by
  have h := OM.SP_nonneg true (l.take k) (fun x hx => hb x (List.mem_of_mem_take hx))
  have := List.length_take_le k l
  have h2 : (l.take k).length ≤ l.length := by rw [List.length_take]; omega
  refine ⟨h.1, Int.le_trans h.2 ?_⟩
  omega
theorem OM.and16 (s : Int) (h0 : 0 ≤ s) (h1 : s ≤ 72057594037927936) : Go.bits .and .i64 s 65535 = s % 65536 :=
  Go.bits_mask .i64 62 (by decide) (fun n h0 h1 => by rw [Go.IntKind.wrap_i64]; omega) 16 (by decide) s h0 (by omega)
set_option maxHeartbeats 1000000 in
set_option maxRecDepth 100000 in
theorem octets_Sum.t (A0 : Option Addr) (c0 : Nat) (l0 : List Int) (w : World) (hr0 : Kd.C (Kd.int .u8) w A0 l0.length l0) (hc0 : l0.length ≤ c0) (hl : l0.length < 1099511627776) (hb : ∀ x ∈ l0, 0 ≤ x ∧ x ≤ 255) :
    Calls Try.prog 12 #[.slice A0 l0.length c0] w fun e w' => e = .returned (.int .i64 (OM.ck l0)) ∧ w = w' := by
  have HR0 := Aside0.mk hr0
  have HBD := Aside0.mk hb
  clear hr0 hb
  go_enter Try.func12, Try.ntmps12
  go_wp2
  refine wp_scope_jumps 0 (fun a' w' => w = w' ∧ ∃ (m : Int) (u1 u2_ u4 u5 u6 u7 u8 u9 u10 u11 u12 u13 u14 u15 u16 u17 u18 u19 u20 u21 u22 u23 u24 u25 u26 u27 u28 u29 u30 u31 : Value), a' = { tmps := #[.slice A0 l0.length c0, u1, u2_, Value.int .i64 m, u4, u5, u6, u7, u8, u9, u10, u11, u12, u13, u14, u15, u16, u17, u18, u19, u20, u21, u22, u23, u24, u25, u26, u27, u28, u29, u30, u31], defers := [] } ∧ Aside0 (OM.F m = OM.F (OM.SP true l0)) ∧ 0 ≤ m ∧ m ≤ 72057594037927936) (fun a' _ => (intOf (a'.tmps.getD 3 undef)).toNat) rfl ?_ ?_
  · go_wp2
    go_loop [3, 8] (fun n i => ∃ k : Nat, k ≤ l0.length ∧ i = .int .i64 k ∧ n = .int .i64 (OM.SP true (l0.take k))) (fun _ i => l0.length - (intOf i).toNat)
    case atStart => exact ⟨0, Nat.zero_le _, rfl, rfl⟩
    case round =>
      obtain ⟨k, hk, rfl, rfl⟩ := hrel
      by_cases hlt : k < l0.length
      · obtain ⟨ad, e, hx⟩ := Kd.at_int HR0.out k (by omega) (by omega)
        cases e
        rw [Int.toNat_natCast] at hx
        obtain ⟨s1, s2⟩ := OM.SP_range l0 k hl HBD.out
        obtain ⟨r1, r2⟩ := OM.rd_range l0 k hlt HBD.out
        have hn := OM.SP_take l0 k hlt
        generalize OM.SP true (l0.take k) = s at hn s1 s2 ⊢
        generalize rd l0 k = c at hn r1 r2 hx ⊢
        by_cases hp : k % 2 = 0
        · have hp1 : ((k : Int) + 1) % 2 = 1 := by omega
          rw [if_pos hp] at hn
          have hn := Aside0.mk hn
          clear hp
          go_wp2
          exact ⟨⟨k + 1, by omega, rfl, by rw [hn.out, Int.mul_comm c 256]⟩, by simp [intOf]; omega⟩
        · have hp1 : ((k : Int) + 1) % 2 = 0 := by omega
          rw [if_neg hp] at hn
          have hn := Aside0.mk hn
          clear hp
          go_wp2
          exact ⟨⟨k + 1, by omega, rfl, by rw [hn.out]⟩, by simp [intOf]; omega⟩
      · obtain ⟨s1, s2⟩ := OM.SP_range l0 k hl HBD.out
        have hn : l0.take k = l0 := List.take_of_length_le (by omega)
        rw [hn] at s1 s2 ⊢
        clear hn
        have hF := OM.F_step (OM.SP true l0)
        have hS := OM.F_small (OM.SP true l0) s1
        have hck : OM.ck l0 = 65535 - OM.F (OM.SP true l0) := rfl
        generalize hsp : OM.SP true l0 = s at hF hS hck s1 s2 ⊢
        have hsp := Aside0.mk hsp
        have hF := Aside0.mk hF
        have hS := Aside0.mk hS
        have hck := Aside0.mk hck
        go_wp2
        go_step3
        have eb := OM.and16 s s1 s2
        by_cases hgt : 65535 < s
        · go_wp2
          go_step3
          refine ⟨rfl, rfl, _, _, _, _, _, _, _, _, _, _, _, _, _, _, _, _, _, _, _, _, _, _, _, _, _, _, _, _, _, _, _, rfl, ⟨(hF.out hgt).trans (by rw [hsp.out])⟩, by omega, by omega⟩
        · go_wp2
          simp only [Exit.jump]
          go_ret
          exact ⟨by rw [hck.out, hS.out (by omega)]; rfl, rfl⟩
  · rintro a' w' ⟨rfl, m, u1, u2_, u4, u5, u6, u7, u8, u9, u10, u11, u12, u13, u14, u15, u16, u17, u18, u19, u20, u21, u22, u23, u24, u25, u26, u27, u28, u29, u30, u31, rfl, hF, h0, h1⟩
    have eb := OM.and16 m h0 h1
    by_cases hgt : 65535 < m
    · go_wp2
      go_step3
      refine ⟨rfl, ⟨rfl, _, _, _, _, _, _, _, _, _, _, _, _, _, _, _, _, _, _, _, _, _, _, _, _, _, _, _, _, _, _, _, rfl, ⟨(OM.F_step m hgt).trans hF.out⟩, by omega, by omega⟩, ?_⟩
      simp [intOf]
      omega
    · go_wp2
      simp only [Exit.jump]
      go_ret
      exact ⟨by rw [show OM.ck l0 = 65535 - m from by unfold OM.ck; rw [← hF.out, OM.F_small m h0 (by omega)]]; rfl, rfl⟩
def octets_Sum.f (l0 : List Int) : Option (Int) := if l0.length < 1099511627776 then (if (l0.all fun x => decide (0 ≤ x) && decide (x ≤ 255)) = true then some (OM.ck l0) else none) else none
theorem octets_Sum.calls (A0 : Option Addr) (c0 : Nat) (l0 : List Int) (r : Int) (w : World) (hr0 : Kd.C (Kd.int .u8) w A0 l0.length l0) (hc0 : l0.length ≤ c0) (h : octets_Sum.f l0 = some r) :
    Calls Try.prog 12 #[.slice A0 l0.length c0] w fun e w' => e = .returned (.int .i64 r) ∧ Drawn0 w w' := by
  unfold octets_Sum.f at h
  by_cases h1 : l0.length < 1099511627776
  · rw [if_pos h1] at h
    by_cases h2 : (l0.all fun x => decide (0 ≤ x) && decide (x ≤ 255)) = true
    · rw [if_pos h2] at h
      obtain rfl := Option.some.inj h
      refine (octets_Sum.t A0 c0 l0 w hr0 hc0 h1 (fun x hx => by simpa using List.all_eq_true.mp h2 x hx)).mono ?_
      rintro e w' ⟨rfl, rfl⟩
      exact ⟨rfl, Drawn0.refl _⟩
    · rw [if_neg h2] at h
      exact absurd h (by simp)
  · rw [if_neg h1] at h
    exact absurd h (by simp)

/-! ### octets_may: function 23 -/
def octets_may.f (a0 : Int) : Option (Bool) := if a0 ≥ 1 then (some (decide (a0 ≤ 4))) else (some false)
set_option maxHeartbeats 8000000 in
set_option maxRecDepth 100000 in
theorem octets_may.calls (a0 : Int) (r : Bool) (w : World) (h : octets_may.f a0 = some r) :
    Calls Try.prog 23 #[.int .i64 a0] w fun e w' => e = .returned (.bool r) ∧ Drawn0 w w' := by
  have H : (if a0 ≥ 1 then (some (decide (a0 ≤ 4))) else (some false)) = some r := h
  clear h
  by_cases c2 : a0 ≥ 1
  · rw [if_pos c2] at H
    have c2b0 : decide (1 ≤ a0) = true := decide_eq_true c2
    clear c2
    obtain rfl := Option.some.inj H
    go_enter Try.func23, Try.ntmps23
    go_wp2
    go_ret
    exact ⟨by first | rfl | (simp; done) | (simp [*]; done), by repeat (first | exact Drawn0.refl _ | apply Drawn0.step)⟩
  · rw [if_neg c2] at H
    have c2b0 : decide (1 ≤ a0) = false := decide_eq_false c2
    clear c2
    obtain rfl := Option.some.inj H
    go_enter Try.func23, Try.ntmps23
    go_wp2
    go_ret
    exact ⟨by first | rfl | (simp; done) | (simp [*]; done), by repeat (first | exact Drawn0.refl _ | apply Drawn0.step)⟩

/-! ### octets_Put: function 13 -/
mutual
def octets_Put.j0 : Nat → Int → Int → Bool → Option (List Int × Int)
  | 0, _, _, _ => none
  | k + 1, x0, x1, x21 => if x21 = true then (some (([] : List Int), 1)) else (if 0 ≤ x1 then (if (x1 : Int).toNat ≤ 281474976710656 then ((some (List.replicate (x1 : Int).toNat 0 : List Int)).bind fun y102 => (octets_Put.l0 k x0 x1 y102 (y102.length : Int) 0)) else (none)) else (none))
def octets_Put.l0 : Nat → Int → Int → List Int → Int → Int → Option (List Int × Int)
  | 0, _, _, _, _, _ => none
  | k + 1, x0, x1, x6, x25, x26 => if x26 < x25 then (if 0 ≤ (wrap64 (8 * (wrap64 ((wrap64 (x1 - 1)) - x26)))) then (if 0 ≤ x26 then (if x26 < (x6.length : Int) then (octets_Put.l0 k x0 x1 (x6.set (x26 : Int).toNat ((shr .i64 x0 (wrap64 (8 * (wrap64 ((wrap64 (x1 - 1)) - x26))))) % 256)) x25 (wrap64 (x26 + 1))) else (none)) else (none)) else (none)) else (some (x6, 0))
end
def octets_Put.f (k : Nat) (a0 : Int) (a1 : Int) : Option (List Int × Int) := (octets_may.f a1).bind fun t101 => (if t101 = true then (if a0 < 0 then (octets_Put.j0 k a0 a1 true) else (if 0 ≤ (wrap64 (8 * a1)) then (octets_Put.j0 k a0 a1 ((shr .i64 a0 (wrap64 (8 * a1))) != 0)) else (none))) else (octets_Put.j0 k a0 a1 true))
theorem octets_Put.mono_l : ∀ k, (∀ y0 y1 y2, LeO (octets_Put.j0 k y0 y1 y2) (octets_Put.j0 (k + 1) y0 y1 y2)) ∧ (∀ y0 y1 y2 y3 y4, LeO (octets_Put.l0 k y0 y1 y2 y3 y4) (octets_Put.l0 (k + 1) y0 y1 y2 y3 y4))
  | 0 => ⟨fun _ _ _ r h => by simp [octets_Put.j0] at h, fun _ _ _ _ _ r h => by simp [octets_Put.l0] at h⟩
  | k + 1 => by
    obtain ⟨ih0, ih1⟩ := octets_Put.mono_l k
    refine ⟨?_, ?_⟩
    · intro y0 y1 y2
      unfold octets_Put.j0
      repeat' first
      | (with_reducible exact ih0 _ _ _)
      | (with_reducible exact ih1 _ _ _ _ _)
      | (with_reducible exact LeO.refl _)
      | (with_reducible exact LeO.none _)
      | (with_reducible refine LeO.ite ?_ ?_)
      | (with_reducible refine LeO.bind ?_ (fun _ => ?_))
      | exact ih0 _ _ _
      | exact ih1 _ _ _ _ _
      | exact LeO.none _
      | refine LeO.ite ?_ ?_
      | refine LeO.bind ?_ (fun _ => ?_)
    · intro y0 y1 y2 y3 y4
      unfold octets_Put.l0
      repeat' first
      | (with_reducible exact ih0 _ _ _)
      | (with_reducible exact ih1 _ _ _ _ _)
      | (with_reducible exact LeO.refl _)
      | (with_reducible exact LeO.none _)
      | (with_reducible refine LeO.ite ?_ ?_)
      | (with_reducible refine LeO.bind ?_ (fun _ => ?_))
      | exact ih0 _ _ _
      | exact ih1 _ _ _ _ _
      | exact LeO.none _
      | refine LeO.ite ?_ ?_
      | refine LeO.bind ?_ (fun _ => ?_)
theorem octets_Put.mono : ∀ a0 a1 k, LeO (octets_Put.f k a0 a1) (octets_Put.f (k + 1) a0 a1) := by
  intro a0 a1 k
  obtain ⟨ih0, ih1⟩ := octets_Put.mono_l k
  unfold octets_Put.f
  repeat' first
      | (with_reducible exact ih0 _ _ _)
      | (with_reducible exact ih1 _ _ _ _ _)
      | (with_reducible exact LeO.refl _)
      | (with_reducible exact LeO.none _)
      | (with_reducible refine LeO.ite ?_ ?_)
      | (with_reducible refine LeO.bind ?_ (fun _ => ?_))
      | exact ih0 _ _ _
      | exact ih1 _ _ _ _ _
      | exact LeO.none _
      | refine LeO.ite ?_ ?_
      | refine LeO.bind ?_ (fun _ => ?_)
set_option maxHeartbeats 8000000 in
set_option maxRecDepth 100000 in
theorem octets_Put.calls (k : Nat) (a0 : Int) (a1 : Int) (r1 : List Int) (r2 : Int) (w : World) (h : octets_Put.f k a0 a1 = some (r1, r2)) :
    Calls Try.prog 13 #[.int .i64 a0, .int .i64 a1] w fun e w' => ∃ v0_ : Value, e = .returned (.tuple #[v0_, .int .i64 r2]) ∧ Kd.R (Kd.int .u8) 5 w' w.heap.size (fun _ => True) v0_ r1 ∧ Below w.heap.size w w' := by
  have HB := Aside0.mk (Below.refl w.heap.size w)
  have H : ((octets_may.f a1).bind fun t101 => (if t101 = true then (if a0 < 0 then (octets_Put.j0 k a0 a1 true) else (if 0 ≤ (wrap64 (8 * a1)) then (octets_Put.j0 k a0 a1 ((shr .i64 a0 (wrap64 (8 * a1))) != 0)) else (none))) else (octets_Put.j0 k a0 a1 true))) = some (r1, r2) := h
  clear h
  have HC3 := Aside0.mk H
  clear H
  go_enter Try.func13, Try.ntmps13
  go_upto_region 1 with (fail)
  go_cut [21] (fun v21 wc => ∃ (kq : Nat) (x21_2 : Bool), v21 = .bool x21_2 ∧ Aside0 (octets_Put.j0 kq a0 a1 x21_2 = some (r1, r2)) ∧ Aside0 (kq ≤ k) ∧ Aside0 (Below w.heap.size w wc))
  case first =>
    have H := HC3.out
    clear HC3
    replace H := Option.bind_eq_some_iff.mp H
    obtain ⟨t101, A40, H⟩ := H
    replace H : (if t101 = true then (if a0 < 0 then (octets_Put.j0 k a0 a1 true) else (if 0 ≤ (wrap64 (8 * a1)) then (octets_Put.j0 k a0 a1 ((shr .i64 a0 (wrap64 (8 * a1))) != 0)) else (none))) else (octets_Put.j0 k a0 a1 true)) = some (r1, r2) := H
    have A4 := Aside0.mk A40
    clear A40
    by_cases c5 : t101 = true
    · subst c5
      have H1 : (if a0 < 0 then (octets_Put.j0 k a0 a1 true) else (if 0 ≤ (wrap64 (8 * a1)) then (octets_Put.j0 k a0 a1 ((shr .i64 a0 (wrap64 (8 * a1))) != 0)) else (none))) = some (r1, r2) := by rw [if_pos rfl] at H; exact H
      clear H
      have H := H1
      clear H1
      by_cases c6 : a0 < 0
      · rw [if_pos c6] at H
        have c6b0 : decide (a0 < 0) = true := decide_eq_true c6
        clear c6
        (first | rw [c6b0] | (simp only [i64_w, i32_w]; rw [c6b0]) | skip)
        have H' := Aside0.mk H
        clear H
        go_wp2_with (first | ((with_reducible refine gate_callee (f := 23) rfl ?_); refine goesL_ (some 9) rfl rfl Try.func23 (by kernel_rfl) rfl #[.int .i64 a1] rfl (by (try simp only [List.map_toArray, List.map_cons, List.map_nil]); first | done | rfl | (simp only [List.length_drop, List.length_take]; rfl)) ?_; (with_reducible refine (octets_may.calls a1 true _ A4.out).mono ?_); rintro e w' ⟨rfl, ⟨nd, rfl⟩⟩; refine ⟨_, rfl, ?_⟩))
        go_meet
        case rel => exact ⟨_, (true), (by first | rfl | (simp; done) | (simp [*]; done)), H', ⟨by first | omega | exact Nat.le_refl _⟩, ⟨by repeat (first | (with_reducible first | exact HB.out | apply below_alloc | apply pw_below_drewN | apply below_drew1) | exact HB.out)⟩⟩
      · rw [if_neg c6] at H
        have c6b0 : decide (a0 < 0) = false := decide_eq_false c6
        clear c6
        (first | rw [c6b0] | (simp only [i64_w, i32_w]; rw [c6b0]) | skip)
        obtain ⟨ji7, hji7⟩ : ∃ j_ : Int, (wrap64 (8 * a1)) = j_ := ⟨_, rfl⟩
        replace H : (if 0 ≤ (ji7) then (octets_Put.j0 k a0 a1 ((shr .i64 a0 (ji7)) != 0)) else (none)) = some (r1, r2) := by first | (rw [hji7] at H; exact H) | (simp only [hji7] at H ⊢; exact H)
        (try rw [hji7] at A4)
        have hji7w : (IntKind.i64.wrap (8 * a1)) = ji7 := (i64_w _).trans hji7
        by_cases c8 : 0 ≤ (ji7)
        · rw [if_pos c8] at H
          have c8b0 := eq_true c8
          have c8b1 : decide (0 ≤ (ji7)) = true := decide_eq_true c8
          clear c8
          obtain ⟨ji9, hji9⟩ : ∃ j_ : Int, (shr .i64 a0 (ji7)) = j_ := ⟨_, rfl⟩
          replace H : (octets_Put.j0 k a0 a1 ((ji9) != 0)) = some (r1, r2) := by first | (rw [hji9] at H; exact H) | (simp only [hji9] at H ⊢; exact H)
          (try rw [hji9] at A4)
          have hji9_ : (a0 / 2 ^ min (ji7).toNat 64) = ji9 := hji9
          have hji9z : (ji7) ≤ 64 → (a0 / 2 ^ (ji7).toNat) = ji9 := shr_small hji9
          have H' := Aside0.mk H
          clear H
          go_wp2_with (first | ((with_reducible refine gate_callee (f := 23) rfl ?_); refine goesL_ (some 9) rfl rfl Try.func23 (by kernel_rfl) rfl #[.int .i64 a1] rfl (by (try simp only [List.map_toArray, List.map_cons, List.map_nil]); first | done | rfl | (simp only [List.length_drop, List.length_take]; rfl)) ?_; (with_reducible refine (octets_may.calls a1 true _ A4.out).mono ?_); rintro e w' ⟨rfl, ⟨nd, rfl⟩⟩; refine ⟨_, rfl, ?_⟩))
          go_meet
          case rel => exact ⟨_, (((ji9) != 0)), (by first | rfl | (simp; done) | (simp only [← hji9] <;> (first | rfl | simp)) | (simp [*]; done)), H', ⟨by first | omega | exact Nat.le_refl _⟩, ⟨by repeat (first | (with_reducible first | exact HB.out | apply below_alloc | apply pw_below_drewN | apply below_drew1) | exact HB.out)⟩⟩
        · rw [if_neg c8] at H
          exact absurd H (by simp)
    · replace c5 := Bool.eq_false_iff.mpr c5
      subst c5
      have H1 : (octets_Put.j0 k a0 a1 true) = some (r1, r2) := by rw [if_neg (show ¬ (false = true) by decide)] at H; exact H
      clear H
      have H := H1
      clear H1
      have H' := Aside0.mk H
      clear H
      go_wp2_with (first | ((with_reducible refine gate_callee (f := 23) rfl ?_); refine goesL_ (some 9) rfl rfl Try.func23 (by kernel_rfl) rfl #[.int .i64 a1] rfl (by (try simp only [List.map_toArray, List.map_cons, List.map_nil]); first | done | rfl | (simp only [List.length_drop, List.length_take]; rfl)) ?_; (with_reducible refine (octets_may.calls a1 false _ A4.out).mono ?_); rintro e w' ⟨rfl, ⟨nd, rfl⟩⟩; refine ⟨_, rfl, ?_⟩))
      go_meet
      case rel => exact ⟨_, (true), (by first | rfl | (simp; done) | (simp [*]; done)), H', ⟨by first | omega | exact Nat.le_refl _⟩, ⟨by repeat (first | (with_reducible first | exact HB.out | apply below_alloc | apply pw_below_drewN | apply below_drew1) | exact HB.out)⟩⟩
  case rest =>
    clear HC3
    try clear c1
    try clear c2
    try clear p2
    try clear c5
    try clear c6
    try clear c6b0
    try clear p6
    try clear c8
    try clear c8b0
    try clear c8b1
    obtain ⟨kq, x21_2, rfl, HA, HJ2, HB⟩ := hcut
    cases kq with
    | zero => exact absurd HA.out (by simp [octets_Put.j0])
    | succ kj2 =>
      have H := HA.out
      clear HA
      simp only [octets_Put.j0] at H
      by_cases c10 : x21_2 = true
      · subst c10
        have H1 : (some (([] : List Int), 1)) = some (r1, r2) := by rw [if_pos rfl] at H; exact H
        clear H
        have H := H1
        clear H1
        simp only [Option.some.injEq, Prod.mk.injEq] at H
        obtain ⟨rfl, rfl⟩ := H
        go_wp2
        go_ret2
        exact ⟨_, by first | rfl | (simp [errW_none, errW_some] <;> rfl) | (simp [*, errW_none, errW_some] <;> rfl), by first | exact Kd.R_nil _ _ _ _ _ | exact Kd.N_nil _ _ _ _ _ | exact Kd.V_nil _ _ _ _ _ | exact Kd.Q_nil _ _ _ _ _ | exact Kd.S_nil _ _ _ _ _, by repeat (first | (with_reducible first | exact HB.out | apply below_alloc | apply pw_below_drewN | apply below_drew1) | exact HB.out)⟩
      · replace c10 := Bool.eq_false_iff.mpr c10
        subst c10
        have H1 : (if 0 ≤ a1 then (if (a1 : Int).toNat ≤ 281474976710656 then ((some (List.replicate (a1 : Int).toNat 0 : List Int)).bind fun y102 => (octets_Put.l0 kj2 a0 a1 y102 (y102.length : Int) 0)) else (none)) else (none)) = some (r1, r2) := by rw [if_neg (show ¬ (false = true) by decide)] at H; exact H
        clear H
        have H := H1
        clear H1
        by_cases c11 : 0 ≤ a1
        · rw [if_pos c11] at H
          have c11b0 := eq_true c11
          have c11b1 : decide (0 ≤ a1) = true := decide_eq_true c11
          clear c11
          by_cases c12 : (a1 : Int).toNat ≤ 281474976710656
          · rw [if_pos c12] at H
            have c12b0 := eq_true c12
            have c12b1 : decide ((a1 : Int).toNat ≤ 281474976710656) = true := decide_eq_true c12
            clear c12
            obtain ⟨y102, hy102⟩ : ∃ y_ : List Int, y_ = (List.replicate (a1 : Int).toNat 0) := ⟨_, rfl⟩
            replace H : (octets_Put.l0 kj2 a0 a1 y102 (y102.length : Int) 0) = some (r1, r2) := by first | (rw [hy102]; with_reducible exact H) | (have H2_ := (Option.bind_some _ _).symm.trans H; rw [hy102]; with_reducible exact H2_) | (have H2_ := (Option.bind_some _ _).symm.trans H; with_reducible exact H2_) | with_reducible exact H | (rw [hy102]; exact H) | exact H
            have Ny102 := Aside0.mk hy102
            clear hy102
            have H' := Aside0.mk H
            clear H
            go_wp2_with (first | ((with_reducible refine gate_dst (N := 23) rfl ?_); refine Kd.R_make (Kd.int .u8) _ 5 rfl (N := 23) rfl 22 _ _ rfl a1 rfl rfl Try.underlying22 (.int .u8 0) 1 info5 rfl (by decide) (by omega) 0 (ok := fun _ => True) (okp := fun _ => True) rfl (fun _ hk => hk) trivial (of_decide_eq_true (by first | (with_reducible assumption) | assumption)) (Nat.le_trans (Nat.mul_le_mul_right _ (of_decide_eq_true (by first | (with_reducible assumption) | assumption) : a1.toNat ≤ 281474976710656)) (by omega)) (Below.refl _ _) (Nat.le_refl _) ?_; intro v103 w13 ho14 hb hg_ hnew_; clear hg_ hnew_; (first | rw [← Ny102.out] at ho14 | (simp only [Int.reduceToNat] at ho14; rw [← Ny102.out] at ho14)); have n0_ := Aside0.mk (Kd.R_lower ho14 (below_size (by repeat (first | (with_reducible first | exact HB.out | apply below_alloc | apply pw_below_drewN | apply below_drew1) | exact HB.out)))); have n1_ := Aside0.mk (below_step (by repeat (first | (with_reducible first | exact HB.out | apply below_alloc | apply pw_below_drewN | apply below_drew1) | exact HB.out)) hb); clear HB; have HO104 := n0_; have HB := n1_; clear n0_ n1_; clear hb ho14; obtain ⟨Ao15, co15, eo15⟩ := Kd.R_slice HO104.out; subst eo15))
            go_loopg [26] kj2 (fun kq v26 w' => ∃ (x6_2 : List Int) (x26_2 : Int), v26 = .int .i64 x26_2 ∧ Aside0 (octets_Put.l0 kq a0 a1 x6_2 (y102.length : Int) x26_2 = some (r1, r2)) ∧ Aside0 (kq ≤ kj2) ∧ Aside0 (Kd.R (Kd.int .u8) 5 w' w.heap.size (fun _ => True) (.slice Ao15 y102.length co15) x6_2) ∧ Aside0 (Below w.heap.size w w'))
            case atStart => exact ⟨(y102), (0), (by first | rfl | (simp; done) | (simp [*]; done)), H', ⟨Nat.le_refl _⟩, ⟨by (with_reducible repeat (first | apply Kd.R_alloc | apply Kd.R_drewN | apply Kd.R_drew)); exact HO104.out⟩, ⟨by repeat (first | (with_reducible first | exact HB.out | apply below_alloc | apply pw_below_drewN | apply below_drew1) | exact HB.out)⟩⟩
            case round =>
              clear H'
              try clear c1
              try clear c2
              try clear p2
              try clear c5
              try clear c6
              try clear c6b0
              try clear p6
              try clear c8
              try clear c8b0
              try clear c8b1
              try clear c10
              try clear c11
              try clear c11b0
              try clear c11b1
              try clear c12
              try clear c12b0
              try clear c12b1
              try clear c13
              try clear p2
              try clear p6
              obtain ⟨x6_2, x26_2, rfl, HA, HK2, HO_6, HB⟩ := hrel
              have hl6_2 := (Kd.R_reads' HO_6.out).1
              rw [hl6_2] at HO_6
              (try simp only [hl6_2])
              cases gk with
              | zero => exact absurd HA.out (by simp [octets_Put.l0])
              | succ k2 =>
                have H := HA.out
                clear HA
                simp only [octets_Put.l0] at H
                by_cases c16 : x26_2 < (y102.length : Int)
                · rw [if_pos c16] at H
                  have c16b0 : decide (x26_2 < (y102.length : Int)) = true := decide_eq_true c16
                  clear c16
                  obtain ⟨ji17, hji17⟩ : ∃ j_ : Int, (wrap64 (8 * (wrap64 ((wrap64 (a1 - 1)) - x26_2)))) = j_ := ⟨_, rfl⟩
                  replace H : (if 0 ≤ (ji17) then (if 0 ≤ x26_2 then (if x26_2 < (x6_2.length : Int) then (octets_Put.l0 k2 a0 a1 (x6_2.set (x26_2 : Int).toNat ((shr .i64 a0 (ji17)) % 256)) (y102.length : Int) (wrap64 (x26_2 + 1))) else (none)) else (none)) else (none)) = some (r1, r2) := by first | (rw [hji17] at H; exact H) | (simp only [hji17] at H ⊢; exact H)
                  have hji17w : (IntKind.i64.wrap (8 * (wrap64 ((wrap64 (a1 - 1)) - x26_2)))) = ji17 := (i64_w _).trans hji17
                  by_cases c18 : 0 ≤ (ji17)
                  · rw [if_pos c18] at H
                    have c18b0 := eq_true c18
                    have c18b1 : decide (0 ≤ (ji17)) = true := decide_eq_true c18
                    clear c18
                    obtain ⟨ji19, hji19⟩ : ∃ j_ : Int, (shr .i64 a0 (ji17)) = j_ := ⟨_, rfl⟩
                    replace H : (if 0 ≤ x26_2 then (if x26_2 < (x6_2.length : Int) then (octets_Put.l0 k2 a0 a1 (x6_2.set (x26_2 : Int).toNat ((ji19) % 256)) (y102.length : Int) (wrap64 (x26_2 + 1))) else (none)) else (none)) = some (r1, r2) := by first | (rw [hji19] at H; exact H) | (simp only [hji19] at H ⊢; exact H)
                    have hji19_ : (a0 / 2 ^ min (ji17).toNat 64) = ji19 := hji19
                    have hji19z : (ji17) ≤ 64 → (a0 / 2 ^ (ji17).toNat) = ji19 := shr_small hji19
                    by_cases c20 : 0 ≤ x26_2
                    · rw [if_pos c20] at H
                      have c20b0 : decide (0 ≤ x26_2) = true := decide_eq_true c20
                      clear c20
                      by_cases c21 : x26_2 < (x6_2.length : Int)
                      · rw [if_pos c21] at H
                        have c21b0 : decide (x26_2 < (x6_2.length : Int)) = true := decide_eq_true c21
                        clear c21
                        obtain ⟨y105, hy105⟩ : ∃ y_ : List Int, y_ = (x6_2.set (x26_2 : Int).toNat ((ji19) % 256)) := ⟨_, rfl⟩
                        replace H : (octets_Put.l0 k2 a0 a1 y105 (y102.length : Int) (wrap64 (x26_2 + 1))) = some (r1, r2) := by first | (rw [hy105]; with_reducible exact H) | (have H2_ := (Option.bind_some _ _).symm.trans H; rw [hy105]; with_reducible exact H2_) | (have H2_ := (Option.bind_some _ _).symm.trans H; with_reducible exact H2_) | with_reducible exact H | (rw [hy105]; exact H) | exact H
                        have Ny105 := Aside0.mk hy105
                        clear hy105
                        have H' := Aside0.mk H
                        clear H
                        have p22 : 0 ≤ (x26_2 : Int) := of_decide_eq_true (by first | (with_reducible assumption) | assumption)
                        have q22 : (x26_2 : Int) < ((x6_2.length : Int) : Int) := of_decide_eq_true (by first | (with_reducible assumption) | assumption)
                        obtain ⟨go22, co22, eo22, gb22, gl22, cl22, HG22⟩ := Kd.R_form HO_6.out (by omega)
                        (first | cases eo22 | (injection eo22 with ea_ en_ ec_; (first | subst ea_ | (injection ea_ with ea_; subst ea_)); subst ec_; clear en_))
                        have GB22 := Aside0.mk gb22
                        have GG22 := Aside0.mk HG22
                        clear gb22 gl22 HG22
                        obtain ⟨hx22_0, hf22_0⟩ := Kd.R_celln 0 HO_6.out (x26_2 : Int) p22 q22
                        replace p22 := eq_true p22
                        replace q22 := eq_true q22
                        have HP23 := Kd.R_putg HO_6.out (x26_2 : Int) ((ji19) % 256)
                        go_wp2_with (first | ((with_reducible refine gate_store (t := 5) (p := 39) rfl ?_); refine store_event (t := 5) (p := 39) (v := ?vo_w24) (w1 := (wr.setCell ⟨go22, (x26_2 : Int).toNat, none⟩ (.int .u8 ((ji19) % 256)))) ?hg ?ho ?hn ?hr ?_; (case ho => rfl); (case hg => rfl); (case hn => rfl); (case hr => first | (go_simp; done) | (go_simp; rfl)); intro w24 hw; have hg : wr.grownBy w24 (some go22) := (by rw [hw]; exact HP23.2); have hp_ : Kd.R (Kd.int .u8) 5 w24 w.heap.size (fun _ => True) (.slice (some ⟨go22, 0, none⟩) x6_2.length co15) y105 := (by rw [hw, Ny105.out]; exact HP23.1); clear HP23; have n0_ := Aside0.mk (hp_); have n1_ := Aside0.mk ((by rw [hw]; exact below_set (HB.out) GB22.out : Below w.heap.size w w24)); clear HO_6; clear HB; have HO_6 := n0_; have HB := n1_; clear n0_ n1_; clear hg hw hp_))
                        (try simp only [← hl6_2])
                        go_roundg k2
                        case measure => have := HJ2.out; have := HK2.out; omega
                        case rel => exact ⟨(y105), (wrap64 (x26_2 + 1)), (by first | rfl | (simp; done) | (simp [*]; done)), H', ⟨by have := HJ2.out; have := HK2.out; omega⟩, ⟨by (try simp only [hl6_2]); (with_reducible repeat (first | apply Kd.R_alloc | apply Kd.R_drewN | apply Kd.R_drew)); exact HO_6.out⟩, ⟨by repeat (first | (with_reducible first | exact HB.out | apply below_alloc | apply pw_below_drewN | apply below_drew1) | exact HB.out)⟩⟩
                      · rw [if_neg c21] at H
                        exact absurd H (by simp)
                    · rw [if_neg c20] at H
                      exact absurd H (by simp)
                  · rw [if_neg c18] at H
                    exact absurd H (by simp)
                · rw [if_neg c16] at H
                  have c16b0 : decide (x26_2 < (y102.length : Int)) = false := decide_eq_false c16
                  (try simp only [hl6_2] at c16b0)
                  clear c16
                  simp only [Option.some.injEq, Prod.mk.injEq] at H
                  obtain ⟨rfl, rfl⟩ := H
                  go_wp2
                  go_ret2
                  exact ⟨_, by first | rfl | (simp [errW_none, errW_some] <;> rfl) | (simp [*, errW_none, errW_some] <;> rfl), by (with_reducible repeat (first | apply Kd.R_alloc | apply Kd.R_drewN | apply Kd.R_drew)); exact HO_6.out, by repeat (first | (with_reducible first | exact HB.out | apply below_alloc | apply pw_below_drewN | apply below_drew1) | exact HB.out)⟩
          · rw [if_neg c12] at H
            exact absurd H (by simp)
        · rw [if_neg c11] at H
          exact absurd H (by simp)

/-! ### wayfinderlaw02_awake: function 11 -/
def wayfinderlaw02_awake.f (k : Nat)  : Option (Bool) := (octets_Put.f k 258 3).bind fun bt106 => (if bt106.2 = 0 then (if (strOfNums bt106.1).toList = ([0, 1, 2] : List UInt8) then ((octets_Sum.f (([1, 2] : List Int))).bind fun t113 => (if t113 = 65277 then ((octets_Sum.f (([1, 2, 254, 253] : List Int))).bind fun t117 => (some (t117 == 0))) else (some false))) else (some false)) else (some false))
theorem wayfinderlaw02_awake.mono : ∀ k, LeO (wayfinderlaw02_awake.f k ) (wayfinderlaw02_awake.f (k + 1) ) := by
  intro  k
  unfold wayfinderlaw02_awake.f
  repeat' first
      | (with_reducible exact octets_Put.mono _ _ _)
      | (with_reducible exact LeO.refl _)
      | (with_reducible exact LeO.none _)
      | (with_reducible refine LeO.ite ?_ ?_)
      | (with_reducible refine LeO.bind ?_ (fun _ => ?_))
      | exact octets_Put.mono _ _ _
      | exact LeO.none _
      | refine LeO.ite ?_ ?_
      | refine LeO.bind ?_ (fun _ => ?_)
set_option maxHeartbeats 8000000 in
set_option maxRecDepth 100000 in
theorem wayfinderlaw02_awake.calls (k : Nat)  (r : Bool) (w : World) (h : wayfinderlaw02_awake.f k  = some r) :
    Calls Try.prog 11 #[] w fun e w' => e = .returned (.bool r) ∧ Below w.heap.size w w' := by
  have HB := Aside0.mk (Below.refl w.heap.size w)
  have H : ((octets_Put.f k 258 3).bind fun bt106 => (if bt106.2 = 0 then (if (strOfNums bt106.1).toList = ([0, 1, 2] : List UInt8) then ((octets_Sum.f (([1, 2] : List Int))).bind fun t113 => (if t113 = 65277 then ((octets_Sum.f (([1, 2, 254, 253] : List Int))).bind fun t117 => (some (t117 == 0))) else (some false))) else (some false)) else (some false))) = some r := h
  clear h
  replace H := Option.bind_eq_some_iff.mp H
  obtain ⟨⟨t106, t107⟩, A10, H⟩ := H
  replace H : (if t107 = 0 then (if (strOfNums t106).toList = ([0, 1, 2] : List UInt8) then ((octets_Sum.f (([1, 2] : List Int))).bind fun t113 => (if t113 = 65277 then ((octets_Sum.f (([1, 2, 254, 253] : List Int))).bind fun t117 => (some (t117 == 0))) else (some false))) else (some false)) else (some false)) = some r := H
  have A1 := Aside0.mk A10
  clear A10
  by_cases c2 : t107 = 0
  · rw [if_pos c2] at H
    have c2b0 : (t107 == 0) = true := beq_iff_eq.mpr c2
    have c2b1 : (t107 != 0) = false := bne_eq_false_iff_eq.mpr c2
    clear c2
    by_cases c3 : (strOfNums t106).toList = ([0, 1, 2] : List UInt8)
    · rw [if_pos c3] at H
      have c3b0 : ((strOfNums t106).toList == ([0, 1, 2] : List UInt8)) = true := beq_iff_eq.mpr c3
      have c3b1 : ((strOfNums t106).toList != ([0, 1, 2] : List UInt8)) = false := bne_eq_false_iff_eq.mpr c3
      clear c3
      obtain ⟨y110, hy110⟩ : ∃ y_ : List Int, y_ = (([1, 2] : List Int)) := ⟨_, rfl⟩
      replace H : ((octets_Sum.f y110).bind fun t113 => (if t113 = 65277 then ((octets_Sum.f (([1, 2, 254, 253] : List Int))).bind fun t117 => (some (t117 == 0))) else (some false))) = some r := by first | (rw [hy110]; with_reducible exact H) | (have H2_ := (Option.bind_some _ _).symm.trans H; rw [hy110]; with_reducible exact H2_) | (have H2_ := (Option.bind_some _ _).symm.trans H; with_reducible exact H2_) | with_reducible exact H | (rw [hy110]; exact H) | exact H
      have Ny110 := Aside0.mk hy110
      clear hy110
      replace H := Option.bind_eq_some_iff.mp H
      obtain ⟨t113, A40, H⟩ := H
      replace H : (if t113 = 65277 then ((octets_Sum.f (([1, 2, 254, 253] : List Int))).bind fun t117 => (some (t117 == 0))) else (some false)) = some r := H
      have A4 := Aside0.mk A40
      clear A40
      by_cases c5 : t113 = 65277
      · rw [if_pos c5] at H
        have c5b0 : (t113 == 65277) = true := beq_iff_eq.mpr c5
        have c5b1 : (t113 != 65277) = false := bne_eq_false_iff_eq.mpr c5
        clear c5
        obtain ⟨y114, hy114⟩ : ∃ y_ : List Int, y_ = (([1, 2, 254, 253] : List Int)) := ⟨_, rfl⟩
        replace H : ((octets_Sum.f y114).bind fun t117 => (some (t117 == 0))) = some r := by first | (rw [hy114]; with_reducible exact H) | (have H2_ := (Option.bind_some _ _).symm.trans H; rw [hy114]; with_reducible exact H2_) | (have H2_ := (Option.bind_some _ _).symm.trans H; with_reducible exact H2_) | with_reducible exact H | (rw [hy114]; exact H) | exact H
        have Ny114 := Aside0.mk hy114
        clear hy114
        replace H := Option.bind_eq_some_iff.mp H
        obtain ⟨t117, A60, H⟩ := H
        replace H : (some (t117 == 0)) = some r := H
        have A6 := Aside0.mk A60
        clear A60
        obtain rfl := Option.some.inj H
        go_enter Try.func11, Try.ntmps11
        go_wp2_with (first | ((with_reducible refine gate_callee (f := 13) rfl ?_); refine goesL_ (some 4) rfl rfl Try.func13 (by kernel_rfl) rfl #[.int .i64 258, .int .i64 3] rfl (by (try simp only [List.map_toArray, List.map_cons, List.map_nil]); first | done | rfl | (simp only [List.length_drop, List.length_take]; rfl)) ?_; (with_reducible refine (octets_Put.calls k 258 3 t106 t107 _ A1.out).mono ?_); rintro e w7 ⟨v108, rfl, ho0, hb⟩; refine ⟨_, rfl, ?_⟩; have n0_ := Aside0.mk (Kd.R_lower ho0 (below_size (by repeat (first | (with_reducible first | exact HB.out | apply below_alloc | apply pw_below_drewN | apply below_drew1) | exact HB.out)))); have n1_ := Aside0.mk (below_step (by repeat (first | (with_reducible first | exact HB.out | apply below_alloc | apply pw_below_drewN | apply below_drew1) | exact HB.out)) hb); clear HB; have HO109 := n0_; have HB := n1_; clear n0_ n1_; (try clear hb); (try clear hb2); (try clear hk); (try clear hi); (try clear ho0); have hcv8 := own_string (P := Try.prog) Try.underlying22 Try.underlying5 Try.underlying9 (Kd.own_of_R HO109.out); have hcv9 := fun (n_ : Nat) => own_string (P := Try.prog) Try.underlying22 Try.underlying5 Try.underlying9 (Kd.own_of_R (Kd.R_drewN HO109.out n_))) | ((with_reducible refine gate_dst (N := 15) rfl ?_); (try (refine gate_guard (by rfl) ?_; dsimp only)); refine Kd.R_lit (Kd.int .u8) _ 5 ?hg (N := 15) ?hd (xs := ([1, 2] : List Int)) (inner := [.int .u8 1, .int .u8 2]) (ok := fun _ => True) (okp := fun _ => True) ?hr ?hp (fun _ hk => hk) trivial (Below.refl _ _) (Nat.le_refl _) (by simp) ?_; (case hd => rfl); (case hg => rfl); (case hr => first | (go_simp; done) | (go_simp; rfl)); (case hp => exact (Reps.one (show Kd.M (Kd.int .u8) _ _ _ 1 [.int .u8 1] from rfl) (Reps.one (show Kd.M (Kd.int .u8) _ _ _ 2 [.int .u8 2] from rfl) (Reps.none _ _)))); intro v111 w10 ho11 hb hg_ hnew_; clear hg_ hnew_; (first | rw [← Ny110.out] at ho11 | (simp only [Int.reduceToNat] at ho11; rw [← Ny110.out] at ho11)); have n0_ := Aside0.mk (Kd.R_elder' (by (with_reducible repeat (first | apply Kd.R_alloc | apply Kd.R_drewN | apply Kd.R_drew)); exact HO109.out) (Kd.R_base ho11) hb); have n1_ := Aside0.mk (Kd.R_lower (Kd.R_new' ho11 (Kd.R_lt (by (with_reducible repeat (first | apply Kd.R_alloc | apply Kd.R_drewN | apply Kd.R_drew)); exact HO109.out))) (below_size (by repeat (first | (with_reducible first | exact HB.out | apply below_alloc | apply pw_below_drewN | apply below_drew1) | exact HB.out)))); have n2_ := Aside0.mk (below_step (by repeat (first | (with_reducible first | exact HB.out | apply below_alloc | apply pw_below_drewN | apply below_drew1) | exact HB.out)) hb); clear HO109; clear HB; have HO109 := n0_; have HO112 := n1_; have HB := n2_; clear n0_ n1_ n2_; clear hb ho11; obtain ⟨Ao12, co12, eo12⟩ := Kd.R_slice HO112.out; subst eo12) | (go_at_call 12; (with_reducible refine (octets_Sum.calls _ _ y110 t113 _ ?side1 ?side2 A4.out).mono ?_); (case side1 => repeat (first | exact (Kd.R_reads' HO112.out).2.2 | (with_reducible refine Kd.C_alloc ?_ _) | (with_reducible refine Kd.C_drewN ?_ _) | (with_reducible refine Kd.C_drew ?_))); (case side2 => exact (Kd.R_reads' HO112.out).2.1); rintro e w' ⟨rfl, ⟨nd, rfl⟩⟩) | ((with_reducible refine gate_dst (N := 20) rfl ?_); (try (refine gate_guard (by rfl) ?_; dsimp only)); refine Kd.R_lit (Kd.int .u8) _ 5 ?hg (N := 20) ?hd (xs := ([1, 2, 254, 253] : List Int)) (inner := [.int .u8 1, .int .u8 2, .int .u8 254, .int .u8 253]) (ok := fun _ => True) (okp := fun _ => True) ?hr ?hp (fun _ hk => hk) trivial (Below.refl _ _) (Nat.le_refl _) (by simp) ?_; (case hd => rfl); (case hg => rfl); (case hr => first | (go_simp; done) | (go_simp; rfl)); (case hp => exact (Reps.one (show Kd.M (Kd.int .u8) _ _ _ 1 [.int .u8 1] from rfl) (Reps.one (show Kd.M (Kd.int .u8) _ _ _ 2 [.int .u8 2] from rfl) (Reps.one (show Kd.M (Kd.int .u8) _ _ _ 254 [.int .u8 254] from rfl) (Reps.one (show Kd.M (Kd.int .u8) _ _ _ 253 [.int .u8 253] from rfl) (Reps.none _ _)))))); intro v115 w13 ho14 hb hg_ hnew_; clear hg_ hnew_; (first | rw [← Ny114.out] at ho14 | (simp only [Int.reduceToNat] at ho14; rw [← Ny114.out] at ho14)); have n0_ := Aside0.mk (Kd.R_elder' (by (with_reducible repeat (first | apply Kd.R_alloc | apply Kd.R_drewN | apply Kd.R_drew)); exact HO109.out) (Kd.R_base ho14) hb); have n1_ := Aside0.mk (Kd.R_elder' (by (with_reducible repeat (first | apply Kd.R_alloc | apply Kd.R_drewN | apply Kd.R_drew)); exact HO112.out) (Kd.R_base ho14) hb); have n2_ := Aside0.mk (Kd.R_lower (Kd.R_new' (Kd.R_new' ho14 (Kd.R_lt (by (with_reducible repeat (first | apply Kd.R_alloc | apply Kd.R_drewN | apply Kd.R_drew)); exact HO109.out))) (Kd.R_lt (by (with_reducible repeat (first | apply Kd.R_alloc | apply Kd.R_drewN | apply Kd.R_drew)); exact HO112.out))) (below_size (by repeat (first | (with_reducible first | exact HB.out | apply below_alloc | apply pw_below_drewN | apply below_drew1) | exact HB.out)))); have n3_ := Aside0.mk (below_step (by repeat (first | (with_reducible first | exact HB.out | apply below_alloc | apply pw_below_drewN | apply below_drew1) | exact HB.out)) hb); clear HO109; clear HO112; clear HB; have HO109 := n0_; have HO112 := n1_; have HO116 := n2_; have HB := n3_; clear n0_ n1_ n2_ n3_; clear hb ho14; obtain ⟨Ao15, co15, eo15⟩ := Kd.R_slice HO116.out; subst eo15) | (go_at_call 12; (with_reducible refine (octets_Sum.calls _ _ y114 t117 _ ?side1 ?side2 A6.out).mono ?_); (case side1 => repeat (first | exact (Kd.R_reads' HO116.out).2.2 | (with_reducible refine Kd.C_alloc ?_ _) | (with_reducible refine Kd.C_drewN ?_ _) | (with_reducible refine Kd.C_drew ?_))); (case side2 => exact (Kd.R_reads' HO116.out).2.1); rintro e w' ⟨rfl, ⟨nd, rfl⟩⟩))
        go_ret
        exact ⟨by first | rfl | (simp [errW_none, errW_some] <;> rfl) | (simp [*, errW_none, errW_some] <;> rfl), by repeat (first | (with_reducible first | exact HB.out | apply below_alloc | apply pw_below_drewN | apply below_drew1) | exact HB.out)⟩
      · rw [if_neg c5] at H
        have c5b0 : (t113 == 65277) = false := beq_eq_false_iff_ne.mpr c5
        have c5b1 : (t113 != 65277) = true := bne_iff_ne.mpr c5
        obtain rfl := Option.some.inj H
        go_enter Try.func11, Try.ntmps11
        go_wp2_with (first | ((with_reducible refine gate_callee (f := 13) rfl ?_); refine goesL_ (some 4) rfl rfl Try.func13 (by kernel_rfl) rfl #[.int .i64 258, .int .i64 3] rfl (by (try simp only [List.map_toArray, List.map_cons, List.map_nil]); first | done | rfl | (simp only [List.length_drop, List.length_take]; rfl)) ?_; (with_reducible refine (octets_Put.calls k 258 3 t106 t107 _ A1.out).mono ?_); rintro e w16 ⟨v108, rfl, ho0, hb⟩; refine ⟨_, rfl, ?_⟩; have n0_ := Aside0.mk (Kd.R_lower ho0 (below_size (by repeat (first | (with_reducible first | exact HB.out | apply below_alloc | apply pw_below_drewN | apply below_drew1) | exact HB.out)))); have n1_ := Aside0.mk (below_step (by repeat (first | (with_reducible first | exact HB.out | apply below_alloc | apply pw_below_drewN | apply below_drew1) | exact HB.out)) hb); clear HB; have HO109 := n0_; have HB := n1_; clear n0_ n1_; (try clear hb); (try clear hb2); (try clear hk); (try clear hi); (try clear ho0); have hcv17 := own_string (P := Try.prog) Try.underlying22 Try.underlying5 Try.underlying9 (Kd.own_of_R HO109.out); have hcv18 := fun (n_ : Nat) => own_string (P := Try.prog) Try.underlying22 Try.underlying5 Try.underlying9 (Kd.own_of_R (Kd.R_drewN HO109.out n_))) | ((with_reducible refine gate_dst (N := 15) rfl ?_); (try (refine gate_guard (by rfl) ?_; dsimp only)); refine Kd.R_lit (Kd.int .u8) _ 5 ?hg (N := 15) ?hd (xs := ([1, 2] : List Int)) (inner := [.int .u8 1, .int .u8 2]) (ok := fun _ => True) (okp := fun _ => True) ?hr ?hp (fun _ hk => hk) trivial (Below.refl _ _) (Nat.le_refl _) (by simp) ?_; (case hd => rfl); (case hg => rfl); (case hr => first | (go_simp; done) | (go_simp; rfl)); (case hp => exact (Reps.one (show Kd.M (Kd.int .u8) _ _ _ 1 [.int .u8 1] from rfl) (Reps.one (show Kd.M (Kd.int .u8) _ _ _ 2 [.int .u8 2] from rfl) (Reps.none _ _)))); intro v111 w19 ho20 hb hg_ hnew_; clear hg_ hnew_; (first | rw [← Ny110.out] at ho20 | (simp only [Int.reduceToNat] at ho20; rw [← Ny110.out] at ho20)); have n0_ := Aside0.mk (Kd.R_elder' (by (with_reducible repeat (first | apply Kd.R_alloc | apply Kd.R_drewN | apply Kd.R_drew)); exact HO109.out) (Kd.R_base ho20) hb); have n1_ := Aside0.mk (Kd.R_lower (Kd.R_new' ho20 (Kd.R_lt (by (with_reducible repeat (first | apply Kd.R_alloc | apply Kd.R_drewN | apply Kd.R_drew)); exact HO109.out))) (below_size (by repeat (first | (with_reducible first | exact HB.out | apply below_alloc | apply pw_below_drewN | apply below_drew1) | exact HB.out)))); have n2_ := Aside0.mk (below_step (by repeat (first | (with_reducible first | exact HB.out | apply below_alloc | apply pw_below_drewN | apply below_drew1) | exact HB.out)) hb); clear HO109; clear HB; have HO109 := n0_; have HO112 := n1_; have HB := n2_; clear n0_ n1_ n2_; clear hb ho20; obtain ⟨Ao21, co21, eo21⟩ := Kd.R_slice HO112.out; subst eo21) | (go_at_call 12; (with_reducible refine (octets_Sum.calls _ _ y110 t113 _ ?side1 ?side2 A4.out).mono ?_); (case side1 => repeat (first | exact (Kd.R_reads' HO112.out).2.2 | (with_reducible refine Kd.C_alloc ?_ _) | (with_reducible refine Kd.C_drewN ?_ _) | (with_reducible refine Kd.C_drew ?_))); (case side2 => exact (Kd.R_reads' HO112.out).2.1); rintro e w' ⟨rfl, ⟨nd, rfl⟩⟩))
        go_ret
        exact ⟨by first | rfl | (simp [errW_none, errW_some] <;> rfl) | (simp [*, errW_none, errW_some] <;> rfl), by repeat (first | (with_reducible first | exact HB.out | apply below_alloc | apply pw_below_drewN | apply below_drew1) | exact HB.out)⟩
    · rw [if_neg c3] at H
      have c3b0 : ((strOfNums t106).toList == ([0, 1, 2] : List UInt8)) = false := beq_eq_false_iff_ne.mpr c3
      have c3b1 : ((strOfNums t106).toList != ([0, 1, 2] : List UInt8)) = true := bne_iff_ne.mpr c3
      obtain rfl := Option.some.inj H
      go_enter Try.func11, Try.ntmps11
      go_wp2_with (first | ((with_reducible refine gate_callee (f := 13) rfl ?_); refine goesL_ (some 4) rfl rfl Try.func13 (by kernel_rfl) rfl #[.int .i64 258, .int .i64 3] rfl (by (try simp only [List.map_toArray, List.map_cons, List.map_nil]); first | done | rfl | (simp only [List.length_drop, List.length_take]; rfl)) ?_; (with_reducible refine (octets_Put.calls k 258 3 t106 t107 _ A1.out).mono ?_); rintro e w22 ⟨v108, rfl, ho0, hb⟩; refine ⟨_, rfl, ?_⟩; have n0_ := Aside0.mk (Kd.R_lower ho0 (below_size (by repeat (first | (with_reducible first | exact HB.out | apply below_alloc | apply pw_below_drewN | apply below_drew1) | exact HB.out)))); have n1_ := Aside0.mk (below_step (by repeat (first | (with_reducible first | exact HB.out | apply below_alloc | apply pw_below_drewN | apply below_drew1) | exact HB.out)) hb); clear HB; have HO109 := n0_; have HB := n1_; clear n0_ n1_; (try clear hb); (try clear hb2); (try clear hk); (try clear hi); (try clear ho0); have hcv23 := own_string (P := Try.prog) Try.underlying22 Try.underlying5 Try.underlying9 (Kd.own_of_R HO109.out); have hcv24 := fun (n_ : Nat) => own_string (P := Try.prog) Try.underlying22 Try.underlying5 Try.underlying9 (Kd.own_of_R (Kd.R_drewN HO109.out n_))))
      go_ret
      exact ⟨by first | rfl | (simp [errW_none, errW_some] <;> rfl) | (simp [*, errW_none, errW_some] <;> rfl), by repeat (first | (with_reducible first | exact HB.out | apply below_alloc | apply pw_below_drewN | apply below_drew1) | exact HB.out)⟩
  · rw [if_neg c2] at H
    have c2b0 : (t107 == 0) = false := beq_eq_false_iff_ne.mpr c2
    have c2b1 : (t107 != 0) = true := bne_iff_ne.mpr c2
    obtain rfl := Option.some.inj H
    go_enter Try.func11, Try.ntmps11
    go_wp2_with (first | ((with_reducible refine gate_callee (f := 13) rfl ?_); refine goesL_ (some 4) rfl rfl Try.func13 (by kernel_rfl) rfl #[.int .i64 258, .int .i64 3] rfl (by (try simp only [List.map_toArray, List.map_cons, List.map_nil]); first | done | rfl | (simp only [List.length_drop, List.length_take]; rfl)) ?_; (with_reducible refine (octets_Put.calls k 258 3 t106 t107 _ A1.out).mono ?_); rintro e w25 ⟨v108, rfl, ho0, hb⟩; refine ⟨_, rfl, ?_⟩; have n0_ := Aside0.mk (Kd.R_lower ho0 (below_size (by repeat (first | (with_reducible first | exact HB.out | apply below_alloc | apply pw_below_drewN | apply below_drew1) | exact HB.out)))); have n1_ := Aside0.mk (below_step (by repeat (first | (with_reducible first | exact HB.out | apply below_alloc | apply pw_below_drewN | apply below_drew1) | exact HB.out)) hb); clear HB; have HO109 := n0_; have HB := n1_; clear n0_ n1_; (try clear hb); (try clear hb2); (try clear hk); (try clear hi); (try clear ho0)))
    go_ret
    exact ⟨by first | rfl | (simp [errW_none, errW_some] <;> rfl) | (simp [*, errW_none, errW_some] <;> rfl), by repeat (first | (with_reducible first | exact HB.out | apply below_alloc | apply pw_below_drewN | apply below_drew1) | exact HB.out)⟩

end Go.Proofs.Ytjcjkfiebmbdmaa.All
