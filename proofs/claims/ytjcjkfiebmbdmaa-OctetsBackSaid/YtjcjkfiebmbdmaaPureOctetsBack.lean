/- What is put is got, whatever stands behind it; what is got is put as these bytes (at most 200 numbers, 3000 bytes). -/
import Derived.Test.YtjcjkfiebmbdmaaAllx7
import Derived.Test.YtjcjkfiebmbdmaaMathC
set_option linter.unusedVariables false
set_option linter.unusedSimpArgs false
namespace Go.Proofs.Ytjcjkfiebmbdmaa.Pure
open Go.RowKit Go.Proofs.Ytjcjkfiebmbdmaa.All Go.Proofs.YtjcjkfiebmbdmaaW.PrintWords Go.Proofs.YtjcjkfiebmbdmaaW.PrintLast Go.Proofs.YtjcjkfiebmbdmaaW.PrintMore
open Go.Proofs.Ytjcjkfiebmbdmaa.All.OB

theorem back1 : ∀ (l ws b rest : List Int), l.length = ws.length → Bys rest → paR l ws = some b → gaR (b ++ rest) ws = .ok l b.length
  | [], [], b, rest, _, _, h => by simp [paR] at h; subst h; simp [gaR]
  | n :: l, w :: ws, b, rest, hl, hr, h => by
    simp only [paR] at h
    by_cases hm : mayPut n w
    · rw [if_pos hm] at h
      cases hp : paR l ws with
      | none => rw [hp] at h; simp at h
      | some b' =>
        rw [hp] at h
        simp only [Option.some.injEq] at h
        subst h
        have hI := back1 l ws b' rest (by simpa using hl) hr hp
        have hbl := be_length n.toNat w.toNat
        have h1 := hm.1
        have hn : n.toNat < 256 ^ w.toNat := by
          have := hm.2.2.2
          have := hm.2.2.1
          omega
        simp only [gaR]
        rw [if_pos ⟨hm.1, hm.2.1⟩, if_neg (by simp only [List.length_append, hbl]; omega)]
        rw [List.append_assoc, List.drop_append_of_le_length (by omega), List.drop_of_length_le (by omega), List.nil_append, hI]
        rw [List.take_append_of_le_length (by omega), List.take_of_length_le (by omega), val_be, Nat.mod_eq_of_lt hn]
        simp only [GA.ok.injEq, List.cons.injEq, and_true, List.length_append, hbl]
        have := hm.2.2.1
        omega
    · rw [if_neg hm] at h; simp at h
theorem back2 : ∀ (ws b l : List Int) (k : Nat), Bys b → gaR b ws = .ok l k → paR l ws = some (b.take k)
  | [], b, l, k, _, h => by simp [gaR] at h; obtain ⟨rfl, rfl⟩ := h; simp [paR]
  | w :: ws, b, l, k, hb, h => by
    simp only [gaR] at h
    by_cases h1 : 1 ≤ w ∧ w ≤ 4
    · rw [if_pos h1] at h
      by_cases h2 : (b.length : Int) < w
      · rw [if_pos h2] at h; simp at h
      · rw [if_neg h2] at h
        cases hr : gaR (b.drop w.toNat) ws with
        | err e => rw [hr] at h; simp at h
        | ok l' k' =>
          rw [hr] at h
          simp only [GA.ok.injEq] at h
          obtain ⟨rfl, rfl⟩ := h
          have hI := back2 ws _ l' k' (hb.drop _) hr
          have hlen : (b.take w.toNat).length = w.toNat := by rw [List.length_take]; omega
          have hv := val_lt _ (hb.take w.toNat)
          rw [hlen] at hv
          have hm : mayPut ((val (b.take w.toNat) : Nat) : Int) w := ⟨h1.1, h1.2, by omega, by omega⟩
          have hbv := be_val _ (hb.take w.toNat)
          rw [hlen] at hbv
          simp only [paR]
          rw [if_pos hm, hI, Int.toNat_natCast, hbv]
          simp only [Option.some.injEq]
          rw [List.take_add]
    · rw [if_neg h1] at h; simp at h
theorem paR_bytes : ∀ (l ws b : List Int), paR l ws = some b → Bys b
  | [], ws, b, h => by simp [paR] at h; subst h; intro x hx; simp at hx
  | n :: l, [], b, h => by simp [paR] at h; subst h; intro x hx; simp at hx
  | n :: l, w :: ws, b, h => by
    simp only [paR] at h
    by_cases hm : mayPut n w
    · rw [if_pos hm] at h
      cases hp : paR l ws with
      | none => rw [hp] at h; simp at h
      | some b' =>
        rw [hp] at h
        simp only [Option.some.injEq] at h
        subst h
        exact (be_bytes _ _).append (paR_bytes l ws b' hp)
    · rw [if_neg hm] at h; simp at h
theorem paR_len : ∀ (l ws b : List Int), paR l ws = some b → b.length ≤ 4 * l.length
  | [], ws, b, h => by simp [paR] at h; subst h; simp
  | n :: l, [], b, h => by simp [paR] at h; subst h; simp
  | n :: l, w :: ws, b, h => by
    simp only [paR] at h
    by_cases hm : mayPut n w
    · rw [if_pos hm] at h
      cases hp : paR l ws with
      | none => rw [hp] at h; simp at h
      | some b' =>
        rw [hp] at h
        simp only [Option.some.injEq] at h
        subst h
        have := paR_len l ws b' hp
        have := hm.2.1
        simp only [List.length_append, be_length, List.length_cons]
        omega
    · rw [if_neg hm] at h; simp at h
theorem back_tail (k : Nat) (hk : 4000 ≤ k) (ws rest : List Int) (hw : ws.length ≤ 200) (hr : rest.length ≤ 3000) (hb : Bys rest) : wayfinderlaw02_OctetsBack.j1 (k + 1) ws rest = some true := by
  simp only [wayfinderlaw02_OctetsBack.j1]
  rw [f_GetAll _ _ hb (by omega) _ (by omega) (by omega)]
  simp only [Option.bind_some]
  cases hg : gaR rest ws with
  | err e =>
    have he := gaR_err _ _ _ hg
    simp only [outGa]
    rw [if_neg (by omega)]
    simp
  | ok l j =>
    obtain ⟨i1, i2⟩ := gaR_k _ _ _ _ hg
    have hp := back2 _ _ _ _ hb hg
    simp only [outGa, if_true]
    rw [f_PutAll _ _ _ (by omega) (by omega)]
    simp only [Option.bind_some, putAllR, i2, if_true, hp, outPa, Int.toNat_natCast, beq_self_eq_true]
    rw [if_pos (by omega), if_pos (by omega)]
theorem OctetsBack : wayfinderlaw02_OctetsBack.Pure := by
  intro l ws rest _ _ _ _ _ _ _ _ hw
  have hb := Bys.of_wf hw
  refine ⟨5002, ?_⟩
  unfold wayfinderlaw02_OctetsBack.f
  rw [f_awake _ (by omega)]
  simp only [Option.bind_some, if_true, wayfinderlaw02_OctetsBack.j0]
  by_cases h1 : (l.length : Int) > 200
  · rw [if_pos h1]
  rw [if_neg h1]
  by_cases h2 : (ws.length : Int) > 200
  · rw [if_pos h2]
  rw [if_neg h2]
  by_cases h3 : (rest.length : Int) > 3000
  · rw [decide_eq_true h3, if_pos rfl]
  have tail := back_tail 5000 (by omega) ws rest (by omega) (by omega) hb
  rw [decide_eq_false h3, if_neg (by decide), f_PutAll _ _ _ (by omega) (by omega)]
  simp only [Option.bind_some, putAllR]
  by_cases h4 : l.length = ws.length
  · rw [if_pos h4]
    cases hp : paR l ws with
    | none =>
      simpa [outPa] using tail
    | some b =>
      have hbb := paR_bytes _ _ _ hp
      have hbl := paR_len _ _ _ hp
      have hg := back1 l ws b rest h4 hb hp
      have c0 : ([] : List Int).length + b.length < 140737488355328 := by simp; omega
      have c1 : b.length + rest.length < 140737488355328 := by omega
      simp only [outPa, if_true, List.nil_append, c0, c1]
      rw [f_GetAll _ _ (hbb.append hb) (by rw [List.length_append]; omega) _ (by omega) (by omega), hg]
      simp only [Option.bind_some, outGa]
      rw [r_Ints _ _ _ (by omega) (by omega)]
      simp only [Option.bind_some, decide_true, if_true]
      exact tail
  · rw [if_neg h4]
    simpa using tail
end Go.Proofs.Ytjcjkfiebmbdmaa.Pure
