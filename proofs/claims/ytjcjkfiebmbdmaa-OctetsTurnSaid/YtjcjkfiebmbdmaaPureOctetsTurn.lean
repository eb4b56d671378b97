/- Where two bytes stand two by two does not matter to the checksum (at most 3000 bytes). -/
import Derived.Test.YtjcjkfiebmbdmaaAllx2
import Derived.Test.YtjcjkfiebmbdmaaMathB
set_option linter.unusedVariables false
set_option linter.unusedSimpArgs false
namespace Go.Proofs.Ytjcjkfiebmbdmaa.Pure
open Go.RowKit Go.Proofs.Ytjcjkfiebmbdmaa.All Go.Proofs.YtjcjkfiebmbdmaaW.PrintWords Go.Proofs.YtjcjkfiebmbdmaaW.PrintLast Go.Proofs.YtjcjkfiebmbdmaaW.PrintMore
open Go.Proofs.Ytjcjkfiebmbdmaa.All.OB

theorem getD_rd (l : List Int) (i : Nat) : l.getD i 0 = rd l (i : Int) := by simp [rd]
theorem OctetsTurn : wayfinderlaw02_OctetsTurn.Pure := by
  intro b i j _ _ hw _ _
  have hb := Bys.of_wf hw
  refine ⟨5001, ?_⟩
  unfold wayfinderlaw02_OctetsTurn.f
  rw [f_awake _ (by omega)]
  simp only [Option.bind_some, if_true, wayfinderlaw02_OctetsTurn.j0]
  by_cases h1 : (b.length : Int) > 3000
  · rw [if_pos h1]
  rw [if_neg h1]
  by_cases h2 : i < 0
  · rw [if_pos h2]
  rw [if_neg h2]
  by_cases h3 : j < 0
  · rw [if_pos h3]
  rw [if_neg h3]
  by_cases h4 : i > 1500
  · rw [if_pos h4]
  rw [if_neg h4]
  by_cases h5 : j > 1500
  · rw [if_pos h5]
  rw [if_neg h5]
  have w1 : wrap64 (2 * i) = 2 * i := by unfold wrap64; omega
  have w2 : wrap64 (2 * i + 1) = 2 * i + 1 := by unfold wrap64; omega
  have w3 : wrap64 (2 * j) = 2 * j := by unfold wrap64; omega
  have w4 : wrap64 (2 * j + 1) = 2 * j + 1 := by unfold wrap64; omega
  simp only [w1, w2, w3, w4]
  clear w1 w2 w3 w4
  by_cases h6 : 2 * i + 1 ≥ (b.length : Int)
  · rw [if_pos h6]
  rw [if_neg h6]
  by_cases h7 : 2 * j + 1 ≥ (b.length : Int)
  · rw [decide_eq_true h7, if_pos rfl]
  rw [decide_eq_false h7, if_neg (by decide)]
  have c0 : ([] : List Int).length + b.length < 140737488355328 := by simp; omega
  have c1 : 0 ≤ 2 * i := by omega
  have c2 : 2 * i < (b.length : Int) := by omega
  have c3 : 0 ≤ 2 * i + 1 := by omega
  have c4 : 2 * i + 1 < (b.length : Int) := by omega
  have c5 : 0 ≤ 2 * j := by omega
  have c6 : 2 * j < (b.length : Int) := by omega
  have c7 : 0 ≤ 2 * j + 1 := by omega
  have c8 : 2 * j + 1 < (b.length : Int) := by omega
  rw [if_pos c0, List.nil_append, if_pos c1, if_pos c2, if_pos c3, if_pos c4, if_pos c5, if_pos c6, if_pos c7, if_pos c8]
  obtain ⟨I, rfl⟩ := Int.eq_ofNat_of_zero_le (by omega : 0 ≤ i)
  obtain ⟨J, rfl⟩ := Int.eq_ofNat_of_zero_le (by omega : 0 ≤ j)
  have n1 : (2 * (I : Int)).toNat = 2 * I := by omega
  have n2 : (2 * (I : Int) + 1).toNat = 2 * I + 1 := by omega
  have n3 : (2 * (J : Int)).toNat = 2 * J := by omega
  have n4 : (2 * (J : Int) + 1).toNat = 2 * J + 1 := by omega
  have b1 := hb.get (2 * (I : Int))
  have b2 := hb.get (2 * (I : Int) + 1)
  have b3 := hb.get (2 * (J : Int))
  have b4 := hb.get (2 * (J : Int) + 1)
  have hB1 := hb.set (2 * I) _ b3
  have b5 := hB1.get (2 * (J : Int) + 1)
  have hB2 := (hB1.set (2 * I + 1) _ b5).set (2 * J) _ b1
  have hB3 := hB2.set (2 * J + 1) _ b2
  simp only [n1, n2, n3, n4]
  rw [f_Sum _ hb (by omega), f_Sum _ hB3 (by simp only [List.length_set]; omega)]
  simp only [Option.bind_some, Option.some.injEq, beq_iff_eq]
  have hI : 2 * I + 1 < b.length := by omega
  have hJ : 2 * J + 1 < b.length := by omega
  have key : OM.SP true ((((b.set (2 * I) (rd b (2 * (J : Int)))).set (2 * I + 1) (rd (b.set (2 * I) (rd b (2 * (J : Int)))) (2 * (J : Int) + 1))).set (2 * J) (rd b (2 * (I : Int)))).set (2 * J + 1) (rd b (2 * (I : Int) + 1))) = OM.SP true b := by
    rw [OM.SP_set _ _ _ _ (by simp only [List.length_set]; omega), OM.SP_set _ _ _ _ (by simp only [List.length_set]; omega), OM.SP_set _ _ _ _ (by simp only [List.length_set]; omega), OM.SP_set _ _ _ _ (by omega)]
    have e0 : ∀ q : Nat, OM.wt true (2 * q) = 256 := by intro q; unfold OM.wt; simp
    have e1 : ∀ q : Nat, OM.wt true (2 * q + 1) = 1 := by intro q; unfold OM.wt; simp [Nat.add_mod]
    rw [e0, e0, e1, e1]
    have r1 : rd b (2 * (J : Int)) = b.getD (2 * J) 0 := by rw [getD_rd]; rfl
    have r2 : rd b (2 * (I : Int)) = b.getD (2 * I) 0 := by rw [getD_rd]; rfl
    have r3 : rd b (2 * (I : Int) + 1) = b.getD (2 * I + 1) 0 := by rw [getD_rd]; rfl
    have r4 : rd (b.set (2 * I) (rd b (2 * (J : Int)))) (2 * (J : Int) + 1) = b.getD (2 * J + 1) 0 := by
      have e : rd (b.set (2 * I) (rd b (2 * (J : Int)))) (2 * (J : Int) + 1) = (b.set (2 * I) (rd b (2 * (J : Int)))).getD (2 * J + 1) 0 := by rw [getD_rd]; rfl
      rw [e]
      simp only [List.getD_eq_getElem?_getD]
      rw [List.getElem?_set_ne (by omega)]
    rw [r4, r1, r2, r3]
    by_cases hne : I = J
    · subst hne
      have g1 : (b.set (2 * I) (b.getD (2 * I) 0)) = b := by
        apply List.ext_getElem?
        intro q
        by_cases hq : 2 * I = q
        · subst hq
          simp [List.getD, show 2 * I < b.length by omega]
        · rw [List.getElem?_set_ne hq]
      have g2 : (b.set (2 * I + 1) (b.getD (2 * I + 1) 0)) = b := by
        apply List.ext_getElem?
        intro q
        by_cases hq : 2 * I + 1 = q
        · subst hq
          simp [List.getD, hI]
        · rw [List.getElem?_set_ne hq]
      rw [g1, g2, g1]
      omega
    · have s1 : ((b.set (2 * I) (b.getD (2 * J) 0)).set (2 * I + 1) (b.getD (2 * J + 1) 0)).getD (2 * J) 0 = b.getD (2 * J) 0 := by
        simp only [List.getD_eq_getElem?_getD]
        rw [List.getElem?_set_ne (by omega), List.getElem?_set_ne (by omega)]
      have s2 : (((b.set (2 * I) (b.getD (2 * J) 0)).set (2 * I + 1) (b.getD (2 * J + 1) 0)).set (2 * J) (b.getD (2 * I) 0)).getD (2 * J + 1) 0 = b.getD (2 * J + 1) 0 := by
        simp only [List.getD_eq_getElem?_getD]
        rw [List.getElem?_set_ne (by omega), List.getElem?_set_ne (by omega), List.getElem?_set_ne (by omega)]
      have s3 : (b.set (2 * I) (b.getD (2 * J) 0)).getD (2 * I + 1) 0 = b.getD (2 * I + 1) 0 := by
        simp only [List.getD_eq_getElem?_getD]
        rw [List.getElem?_set_ne (by omega)]
      rw [s1, s2, s3]
      omega
  unfold OM.ck
  rw [key]
end Go.Proofs.Ytjcjkfiebmbdmaa.Pure
