/- Two packets that are not the same have other bytes; each field stands where it stands. -/
import Derived.Test.YtkidokbeabmpmaaDoorAllx5
import Derived.Test.YtkidokbeabmpmaaDoorMathM
set_option linter.unusedVariables false
set_option linter.unusedSimpArgs false
namespace Go.Proofs.YtkidokbeabmpmaaDoor.Pure
open Go.RowKit Go.Proofs.YtkidokbeabmpmaaDoor.All Go.Proofs.YtkidokbeabmpmaaDoorW.PrintWords Go.Proofs.YtkidokbeabmpmaaDoorW.PrintLast
open Go.Proofs.YtkidokbeabmpmaaDoor.All.OB
theorem f_awake3 (k : Nat) (hk : 200 ≤ k) : wayfinderlaw03_awake.f k = some true := by
  unfold wayfinderlaw03_awake.f
  rw [f_PPut k (by omega)]
  have hr : isPkt 1 2 3 4 5 := by decide
  have hbts : pktBytes 1 2 3 4 5 = [0, 0, 0, 1, 0, 0, 0, 2, 0, 0, 0, 3, 0, 4, 0, 5, 255, 240] := by decide +kernel
  simp only [pPutR, if_pos hr, Option.bind_some, if_true, hbts]
  decide
theorem be_iff (x y : Int) (w : Nat) (hx : 0 ≤ x) (hy : 0 ≤ y) (h1 : x.toNat < 256 ^ w) (h2 : y.toNat < 256 ^ w) : be x.toNat w = be y.toNat w ↔ x = y := by
  constructor
  · intro h
    have := be_inj _ _ _ h1 h2 h
    omega
  · rintro rfl
    rfl
theorem field_beq {l m u v : List Int} {x y : Int} (hl : l = u) (hm : m = v) (bl : Bys u) (bm : Bys v) (h : u = v ↔ x = y) : (((strOfNums l).toList == (strOfNums m).toList) == (x == y)) = true := by
  subst hl
  subst hm
  rw [str_beq bl bm, beq_iff_eq, Bool.eq_iff_iff, decide_eq_true_iff, beq_iff_eq]
  exact h
theorem head16 (a b c t g : Int) : (pktBytes a b c t g).take 16 = pktHead a b c t g := by
  unfold pktBytes
  rw [List.take_append_of_le_length (by rw [pktHead_length]; omega), List.take_of_length_le (by rw [pktHead_length]; omega)]
theorem drop14 (a b c t g : Int) : (pktHead a b c t g).drop 14 = be g.toNat 2 := by
  have e : pktHead a b c t g = (be a.toNat 4 ++ (be b.toNat 4 ++ (be c.toNat 4 ++ be t.toNat 2))) ++ be g.toNat 2 := by
    unfold pktHead
    simp only [List.append_assoc]
  rw [e]
  exact List.drop_left' (by simp only [List.length_append, be_length])
theorem PacketFields : wayfinderlaw03_PacketFields.Pure := by
  intro a b c t g a' b' c' t' g' _ _ _ _ _ _ _ _ _ _
  refine ⟨5001, ?_⟩
  unfold wayfinderlaw03_PacketFields.f
  rw [f_awake3 _ (by omega), f_PPut _ (by omega), f_PPut _ (by omega)]
  simp only [Option.bind_some, if_true]
  unfold pPutR
  by_cases h : isPkt a b c t g
  · by_cases h' : isPkt a' b' c' t' g'
    · rw [if_pos h, if_pos h']
      simp only [if_true, wayfinderlaw03_PacketFields.j0]
      have hlen := pktBytes_length a b c t g
      have hlen' := pktBytes_length a' b' c' t' g'
      have p2 : (256 : Nat) ^ 2 = 65536 := rfl
      have p4 : (256 : Nat) ^ 4 = 4294967296 := rfl
      obtain ⟨x0, x1, x2, x3, x4, _⟩ := pkt_cut a b c t g [OM.ck (pktHead a b c t g) / 256 % 256, OM.ck (pktHead a b c t g) % 256]
      obtain ⟨y0, y1, y2, y3, y4, _⟩ := pkt_cut a' b' c' t' g' [OM.ck (pktHead a' b' c' t' g') / 256 % 256, OM.ck (pktHead a' b' c' t' g') % 256]
      obtain ⟨q1, q2, q3, q4, q5⟩ := h
      obtain ⟨q1', q2', q3', q4', q5'⟩ := h'
      have i0 := be_iff a a' 4 q1.1 q1'.1 (by rw [p4]; omega) (by rw [p4]; omega)
      have i1 := be_iff b b' 4 q2.1 q2'.1 (by rw [p4]; omega) (by rw [p4]; omega)
      have i2 := be_iff c c' 4 q3.1 q3'.1 (by rw [p4]; omega) (by rw [p4]; omega)
      have i3 := be_iff t t' 2 q4.1 q4'.1 (by rw [p2]; omega) (by rw [p2]; omega)
      have i4 := be_iff g g' 2 q5.1 q5'.1 (by rw [p2]; omega) (by rw [p2]; omega)
      have bne : ((0 : Int) != 0) = false := rfl
      rw [bne, if_neg (by decide), if_pos (by omega), if_pos (by omega), if_pos (by omega), if_pos (by omega), head16, head16]
      have all : (((strOfNums (pktHead a b c t g)).toList == (strOfNums (pktHead a' b' c' t' g')).toList) == (a == a' && (b == b' && (c == c' && (t == t' && (g == g')))))) = true := by
        rw [str_beq (pktHead_bytes _ _ _ _ _) (pktHead_bytes _ _ _ _ _), beq_iff_eq, Bool.eq_iff_iff, decide_eq_true_iff]
        simp only [Bool.and_eq_true, beq_iff_eq]
        constructor
        · intro e
          obtain ⟨u0, u1, u2, u3, u4, _⟩ := pkt_cut a b c t g []
          obtain ⟨v0, v1, v2, v3, v4, _⟩ := pkt_cut a' b' c' t' g' []
          rw [e] at u0 u1 u2 u3 u4
          exact ⟨i0.1 (u0.symm.trans v0), i1.1 (u1.symm.trans v1), i2.1 (u2.symm.trans v2), i3.1 (u3.symm.trans v3), i4.1 (u4.symm.trans v4)⟩
        · rintro ⟨rfl, rfl, rfl, rfl, rfl⟩
          rfl
      have d0 : ∀ (l : List Int), (l.drop 0).take 4 = l.take 4 := fun l => by rw [List.drop_zero]
      have cut : ∀ (l : List Int) (u v : Nat), (l.take v).drop u = (l.drop u).take (v - u) := fun l u v => List.drop_take ..
      rw [if_pos all, if_pos (by omega), if_pos (by omega)]
      rw [d0] at x0 y0
      replace x0 : (pktBytes a b c t g).take 4 = be a.toNat 4 := x0
      replace y0 : (pktBytes a' b' c' t' g').take 4 = be a'.toNat 4 := y0
      replace x2 : ((pktBytes a b c t g).take 12).drop 8 = be c.toNat 4 := (cut _ 8 12).trans x2
      replace y2 : ((pktBytes a' b' c' t' g').take 12).drop 8 = be c'.toNat 4 := (cut _ 8 12).trans y2
      rw [if_pos (field_beq x0 y0 (be_bytes _ _) (be_bytes _ _) i0), if_pos (by decide), if_pos (by omega), if_pos (by omega), if_pos (field_beq x2 y2 (be_bytes _ _) (be_bytes _ _) i2), if_pos (by decide)]
      exact congrArg some (field_beq (drop14 a b c t g) (drop14 a' b' c' t' g') (be_bytes _ _) (be_bytes _ _) i4)
    · rw [if_pos h, if_neg h']
      rfl
  · rw [if_neg h]
    rfl
end Go.Proofs.YtkidokbeabmpmaaDoor.Pure
