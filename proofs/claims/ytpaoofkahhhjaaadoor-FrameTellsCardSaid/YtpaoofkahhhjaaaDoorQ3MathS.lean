/- What the document's Seal and Open of layer 6 come to. -/
import Derived.Test.YtpaoofkahhhjaaaDoorQ3Allx0
import Derived.Test.YtpaoofkahhhjaaaDoorQ3Allx13
import Derived.Test.YtpaoofkahhhjaaaDoorQ3Allx19
import Derived.Test.YtpaoofkahhhjaaaDoorQ3MathD
import Derived.Test.YtpaoofkahhhjaaaDoorQ3MathF
import Derived.Test.YtpaoofkahhhjaaaDoorQ3MathM
import Derived.Test.YtpaoofkahhhjaaaDoorQ3MathO
import Derived.Test.YtpaoofkahhhjaaaDoorQ3MathP
import Derived.Test.YtpaoofkahhhjaaaDoorQ3MathQ
import Derived.Test.YtpaoofkahhhjaaaDoorQ3MathR
set_option linter.unusedVariables false
set_option linter.unusedSimpArgs false
namespace Go.Proofs.YtpaoofkahhhjaaaDoor.All
open Go.RowKit Go.Proofs.YtpaoofkahhhjaaaDoorW.PrintWords Go.Proofs.YtpaoofkahhhjaaaDoorW.PrintLast Go.Proofs.YtpaoofkahhhjaaaDoorW.PrintMore
open BM OB
theorem r_Seal (n : Nat) (hn : 500 ≤ n) (kd ep sq tg p l i q k o : Int) : wayfinderref06_Seal.f n kd ep sq tg p l i q k o = some (sealR kd ep sq tg p l i q k o) := by
  unfold wayfinderref06_Seal.f sealR
  rw [r_MPut n (by omega)]
  unfold mPutR
  by_cases h : isMsg kd ep sq tg p l i q k o
  · rw [if_pos h, if_pos h]
    have hb := msgBytes_bytes h
    have hl := msg_small kd ep sq tg p l i q k o
    generalize msgBytes kd ep sq tg p l i q k o = b at hb hl
    have hB := frmBody_bytes hb
    have hL := frmBody_length b
    simp only [Option.bind_some, if_true]
    rw [if_pos (by simp; omega)]
    by_cases hp : ((b.length : Int) % 2) = 1
    · have e : [197, ((b.length : Int)) % 256] ++ b ++ [0] = frmBody b := by unfold frmBody frmPad; rw [if_pos hp]
      rw [if_pos hp, if_pos (by simp; omega), e, r_Sum n _ hB (by omega) (by omega)]
      simp only [Option.bind_some]
      rw [r_Put n (by omega), put_ck _ (ck_range _ hB)]
      simp only [Option.bind_some]
      rw [if_pos (by simp; omega)]
      rfl
    · have e : [197, ((b.length : Int)) % 256] ++ b = frmBody b := by unfold frmBody frmPad; rw [if_neg hp, List.append_nil]
      rw [if_neg hp, e, r_Sum n _ hB (by omega) (by omega)]
      simp only [Option.bind_some]
      rw [r_Put n (by omega), put_ck _ (ck_range _ hB)]
      simp only [Option.bind_some]
      rw [if_pos (by simp; omega)]
      rfl
  · rw [if_neg h, if_neg h]
    rfl
theorem r_Open (n : Nat) (hn : 3500 ≤ n) (l : List Int) (hb : Bys l) (hl : l.length ≤ 3000) : wayfinderref06_Open.f n l = some (oGetR l) := by
  unfold wayfinderref06_Open.f oGetR
  by_cases h1 : (l.length : Int) < 4
  · rw [if_pos h1, if_pos h1]
  have g1 := hb.get 1
  have w1 : wrap64 (rd l 1) = rd l 1 := by unfold wrap64; omega
  have w2 : Int.tmod (rd l 1) 2 = rd l 1 % 2 := Int.tmod_eq_emod_of_nonneg g1.1
  have w3 : wrap64 (rd l 1 + rd l 1 % 2) = rd l 1 + rd l 1 % 2 := by unfold wrap64; omega
  have w4 : wrap64 (rd l 1 + rd l 1 % 2 + 4) = 2 + rd l 1 + rd l 1 % 2 + 2 := by unfold wrap64; omega
  have w5 : wrap64 (2 + rd l 1) = 2 + rd l 1 := by unfold wrap64; omega
  rw [if_neg h1, if_neg h1, if_pos (by omega), w1, w2, w3, w4, w5]
  clear w1 w2 w3 w4 w5
  by_cases h2 : rd l 0 = 197
  · rw [if_pos h2, if_pos h2, if_pos (by omega)]
    by_cases h3 : (l.length : Int) < 2 + rd l 1 + rd l 1 % 2 + 2
    · rw [if_pos h3, if_pos h3]
    rw [if_neg h3, if_neg h3]
    by_cases h4 : 2 + rd l 1 + rd l 1 % 2 + 2 < (l.length : Int)
    · rw [if_pos h4, if_pos h4]
    rw [if_neg h4, if_neg h4, r_Sum n l hb (by omega) (by omega)]
    simp only [Option.bind_some]
    have hg := r_MGet n (by omega) ((l.take (2 + rd l 1).toNat).drop 2) ((hb.take _).drop _) (by rw [List.length_drop, List.length_take]; omega)
    by_cases h5 : OM.ck l = 0
    · rw [if_pos h5, if_pos h5]
      by_cases h6 : rd l 1 % 2 = 1
      · rw [if_pos h6, if_pos (by omega), if_pos (by omega)]
        by_cases h7 : rd l (2 + rd l 1) = 0
        · rw [if_pos h7, if_neg (show ¬ (rd l 1 % 2 = 1 ∧ ¬ rd l (2 + rd l 1) = 0) from fun h => h.2 h7), if_pos (by omega), if_pos (by omega), hg]
          rfl
        · rw [if_neg h7, if_pos ⟨h6, h7⟩]
      · rw [if_neg h6, if_neg (show ¬ (rd l 1 % 2 = 1 ∧ ¬ rd l (2 + rd l 1) = 0) from fun h => h6 h.1), if_pos (by omega), if_pos (by omega), hg]
        rfl
    · rw [if_neg h5, if_neg h5]
  · rw [if_neg h2, if_neg h2]
end Go.Proofs.YtpaoofkahhhjaaaDoor.All
