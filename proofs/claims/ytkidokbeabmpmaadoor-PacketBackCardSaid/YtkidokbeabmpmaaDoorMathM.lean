/- What package packet's May, Put and Get come to, and the document's; that Put and Get undo each other. -/
import Derived.Test.YtkidokbeabmpmaaDoorAllx0
import Derived.Test.YtkidokbeabmpmaaDoorAllx11
import Derived.Test.YtkidokbeabmpmaaDoorAllx13
import Derived.Test.YtkidokbeabmpmaaDoorAllx2
import Derived.Test.YtkidokbeabmpmaaDoorAllx3
import Derived.Test.YtkidokbeabmpmaaDoorAllx8
import Derived.Test.YtkidokbeabmpmaaDoorAllx9
import Derived.Test.YtkidokbeabmpmaaDoorMathD
import Derived.Test.YtkidokbeabmpmaaDoorMathE
import Derived.Test.YtkidokbeabmpmaaDoorMathF
set_option linter.unusedVariables false
set_option linter.unusedSimpArgs false
namespace Go.Proofs.YtkidokbeabmpmaaDoor.All
open Go.RowKit Go.Proofs.YtkidokbeabmpmaaDoorW.PrintWords Go.Proofs.YtkidokbeabmpmaaDoorW.PrintLast Go.Proofs.YtkidokbeabmpmaaDoorW.PrintMore
open OB
def isPkt (a b c t g : Int) : Prop := (0 ≤ a ∧ a ≤ 4294967295) ∧ (0 ≤ b ∧ b ≤ 4294967295) ∧ (0 ≤ c ∧ c ≤ 4294967295) ∧ (0 ≤ t ∧ t ≤ 16) ∧ (0 ≤ g ∧ g ≤ 4095)
instance (a b c t g : Int) : Decidable (isPkt a b c t g) := by unfold isPkt; infer_instance
theorem f_PMay (a b c t g : Int) : packet_May.f a b c t g = some (decide (isPkt a b c t g)) := by
  unfold packet_May.f packet_May_in.f
  congr 1
  rw [Bool.eq_iff_iff, decide_eq_true_iff]
  simp only [Bool.and_eq_true, decide_eq_true_iff]
  exact Iff.rfl
theorem r_word (a : Int) : wayfinderref03_word.f a = some (decide (0 ≤ a ∧ a ≤ 4294967295)) := by
  unfold wayfinderref03_word.f
  by_cases h : a ≥ 0
  · rw [if_pos h]
    congr 1
    rw [Bool.eq_iff_iff, decide_eq_true_iff, decide_eq_true_iff]
    omega
  · rw [if_neg h, decide_eq_false (by omega)]
theorem r_PMay (a b c t g : Int) : wayfinderref03_May.f a b c t g = some (decide (isPkt a b c t g)) := by
  unfold wayfinderref03_May.f
  rw [r_word, r_word, r_word]
  simp only [Option.bind_some, decide_eq_true_iff]
  by_cases h1 : 0 ≤ a ∧ a ≤ 4294967295
  · rw [if_pos h1]
    by_cases h2 : 0 ≤ b ∧ b ≤ 4294967295
    · rw [if_pos h2]
      by_cases h3 : 0 ≤ c ∧ c ≤ 4294967295
      · rw [if_pos h3]
        by_cases h4 : t ≥ 0
        · rw [if_pos h4]
          by_cases h5 : t ≤ 16
          · rw [if_pos h5]
            by_cases h6 : g ≥ 0
            · rw [if_pos h6]
              congr 1
              rw [Bool.eq_iff_iff, decide_eq_true_iff, decide_eq_true_iff]
              exact ⟨fun h => ⟨h1, h2, h3, ⟨h4, h5⟩, h6, h⟩, fun h => h.2.2.2.2.2⟩
            · rw [if_neg h6, decide_eq_false (fun h : isPkt a b c t g => h6 h.2.2.2.2.1)]
          · rw [if_neg h5, decide_eq_false (fun h : isPkt a b c t g => h5 h.2.2.2.1.2)]
        · rw [if_neg h4, decide_eq_false (fun h : isPkt a b c t g => h4 h.2.2.2.1.1)]
      · rw [if_neg h3, decide_eq_false (fun h : isPkt a b c t g => h3 h.2.2.1)]
    · rw [if_neg h2, decide_eq_false (fun h : isPkt a b c t g => h2 h.2.1)]
  · rw [if_neg h1, decide_eq_false (fun h : isPkt a b c t g => h1 h.1)]
def pktHead (a b c t g : Int) : List Int := be a.toNat 4 ++ (be b.toNat 4 ++ (be c.toNat 4 ++ (be t.toNat 2 ++ be g.toNat 2)))
theorem pktHead_length (a b c t g : Int) : (pktHead a b c t g).length = 16 := by
  unfold pktHead
  simp only [List.length_append, be_length]
theorem pktHead_bytes (a b c t g : Int) : Bys (pktHead a b c t g) := (be_bytes _ _).append ((be_bytes _ _).append ((be_bytes _ _).append ((be_bytes _ _).append (be_bytes _ _))))
def pktBytes (a b c t g : Int) : List Int := pktHead a b c t g ++ [OM.ck (pktHead a b c t g) / 256 % 256, OM.ck (pktHead a b c t g) % 256]
theorem pktBytes_length (a b c t g : Int) : (pktBytes a b c t g).length = 18 := by
  unfold pktBytes
  rw [List.length_append, pktHead_length]
  rfl
theorem two_bytes (x y : Int) : Bys [x / 256 % 256, y % 256] := by
  intro z hz
  simp only [List.mem_cons, List.not_mem_nil, or_false] at hz
  rcases hz with rfl | rfl <;> omega
theorem pktBytes_bytes (a b c t g : Int) : Bys (pktBytes a b c t g) := (pktHead_bytes _ _ _ _ _).append (two_bytes _ _)
theorem ck_range (l : List Int) (h : Bys l) : 0 ≤ OM.ck l ∧ OM.ck l ≤ 65535 := by
  have := OM.F_range (OM.SP true l) (OM.SP_nonneg true l h).1
  unfold OM.ck
  omega
def pPutR (a b c t g : Int) : List Int × Int := if isPkt a b c t g then (pktBytes a b c t g, 0) else ([], 1)
theorem pkt_pa {a b c t g : Int} (h : isPkt a b c t g) : putAllR [a, b, c, t, g] [4, 4, 4, 2, 2] = (pktHead a b c t g, 0) := by
  obtain ⟨h1, h2, h3, h4, h5⟩ := h
  have m1 : mayPut a 4 := ⟨by omega, by omega, by omega, by show a < ((256 ^ 4 : Nat) : Int); simp; omega⟩
  have m2 : mayPut b 4 := ⟨by omega, by omega, by omega, by show b < ((256 ^ 4 : Nat) : Int); simp; omega⟩
  have m3 : mayPut c 4 := ⟨by omega, by omega, by omega, by show c < ((256 ^ 4 : Nat) : Int); simp; omega⟩
  have m4 : mayPut t 2 := ⟨by omega, by omega, by omega, by show t < ((256 ^ 2 : Nat) : Int); simp; omega⟩
  have m5 : mayPut g 2 := ⟨by omega, by omega, by omega, by show g < ((256 ^ 2 : Nat) : Int); simp; omega⟩
  unfold putAllR pktHead
  simp only [paR, if_pos m1, if_pos m2, if_pos m3, if_pos m4, if_pos m5, outPa, List.length_cons, List.length_nil, if_true, List.append_nil]
  rfl
theorem f_PPut (n : Nat) (hn : 100 ≤ n) (a b c t g : Int) : packet_Put.f n a b c t g = some (pPutR a b c t g) := by
  unfold packet_Put.f pPutR
  rw [f_PMay]
  simp only [Option.bind_some]
  by_cases h : isPkt a b c t g
  · rw [decide_eq_true h, if_pos rfl, if_pos h, f_PutAll n _ _ (by simp) (by simp; omega), pkt_pa h]
    simp only [Option.bind_some, if_true]
    rw [f_Sum _ (pktHead_bytes _ _ _ _ _) (by rw [pktHead_length]; decide)]
    simp only [Option.bind_some]
    rw [if_pos (by rw [pktHead_length]; simp)]
    rfl
  · rw [decide_eq_false h, if_neg (by decide), if_neg h]
theorem put_ck (x : Int) (h : 0 ≤ x ∧ x ≤ 65535) : putR x 2 = ([x / 256 % 256, x % 256], 0) := by
  unfold putR
  rw [if_pos ⟨by omega, by omega, h.1, by show x < ((256 ^ 2 : Nat) : Int); simp; omega⟩]
  obtain ⟨c, hc⟩ := Int.eq_ofNat_of_zero_le h.1
  rw [hc]
  simp [be]
theorem r_PPut (n : Nat) (hn : 100 ≤ n) (a b c t g : Int) : wayfinderref03_Put.f n a b c t g = some (pPutR a b c t g) := by
  unfold wayfinderref03_Put.f pPutR
  rw [r_PMay]
  simp only [Option.bind_some]
  by_cases h : isPkt a b c t g
  · rw [decide_eq_true h, if_pos rfl, if_pos h, r_PutAll n _ _ (by simp) (by simp; omega), pkt_pa h]
    simp only [Option.bind_some]
    rw [r_Sum n _ (pktHead_bytes _ _ _ _ _) (by rw [pktHead_length]; decide) (by rw [pktHead_length]; omega)]
    simp only [Option.bind_some]
    rw [r_Put n (by omega), put_ck _ (ck_range _ (pktHead_bytes _ _ _ _ _))]
    simp only [Option.bind_some]
    rw [if_pos (by rw [pktHead_length]; simp)]
    rfl
  · rw [decide_eq_false h, if_neg (by decide), if_neg h]
def pv (l : List Int) (a n : Nat) : Int := ((val ((l.drop a).take n) : Nat) : Int)
theorem pkt_ga (l : List Int) (h : l.length = 18) : outGa (gaR l [4, 4, 4, 2, 2]) = ([pv l 0 4, pv l 4 4, pv l 8 4, pv l 12 2, pv l 14 2], 16, 0) := by
  have hd : ∀ j : Nat, (l.drop j).length = l.length - j := fun j => List.length_drop
  have c4 : (1 : Int) ≤ 4 ∧ (4 : Int) ≤ 4 := by decide
  have c2 : (1 : Int) ≤ 2 ∧ (2 : Int) ≤ 4 := by decide
  have t4 : (4 : Int).toNat = 4 := rfl
  have t2 : (2 : Int).toNat = 2 := rfl
  simp only [gaR, if_pos c4, if_pos c2, t4, t2, List.drop_drop, hd]
  rw [if_neg (by omega), if_neg (by omega), if_neg (by omega), if_neg (by omega), if_neg (by omega)]
  rfl
def pGetR (l : List Int) : Int × Int × Int × Int × Int × Int :=
  if l.length < 18 then (0, 0, 0, 0, 0, 3) else
  if l.length > 18 then (0, 0, 0, 0, 0, 2) else
  if OM.ck l = 0 then (if isPkt (pv l 0 4) (pv l 4 4) (pv l 8 4) (pv l 12 2) (pv l 14 2) then (pv l 0 4, pv l 4 4, pv l 8 4, pv l 12 2, pv l 14 2, 0) else (0, 0, 0, 0, 0, 2))
  else (0, 0, 0, 0, 0, 4)
theorem f_PGet (n : Nat) (hn : 100 ≤ n) (l : List Int) (hb : Bys l) : packet_Get.f n l = some (pGetR l) := by
  unfold packet_Get.f pGetR
  by_cases h1 : l.length < 18
  · rw [if_pos (by omega), if_pos h1]
  rw [if_neg (by omega), if_neg h1]
  by_cases h2 : l.length > 18
  · rw [if_pos (by omega), if_pos h2]
  rw [if_neg (by omega), if_neg h2, f_Sum l hb (by omega)]
  simp only [Option.bind_some]
  by_cases h3 : OM.ck l = 0
  · rw [if_pos h3, if_pos h3, f_GetAll n l hb (by omega) _ (by simp) (by simp; omega), pkt_ga l (by omega)]
    simp only [Option.bind_some, if_true, List.length_cons, List.length_nil]
    have q0 : rd [pv l 0 4, pv l 4 4, pv l 8 4, pv l 12 2, pv l 14 2] 0 = pv l 0 4 := rfl
    have q1 : rd [pv l 0 4, pv l 4 4, pv l 8 4, pv l 12 2, pv l 14 2] 1 = pv l 4 4 := rfl
    have q2 : rd [pv l 0 4, pv l 4 4, pv l 8 4, pv l 12 2, pv l 14 2] 2 = pv l 8 4 := rfl
    have q3 : rd [pv l 0 4, pv l 4 4, pv l 8 4, pv l 12 2, pv l 14 2] 3 = pv l 12 2 := rfl
    have q4 : rd [pv l 0 4, pv l 4 4, pv l 8 4, pv l 12 2, pv l 14 2] 4 = pv l 14 2 := rfl
    rw [q0, q1, q2, q3, q4, if_pos (by decide), if_pos (by decide), if_pos (by decide), if_pos (by decide), if_pos (by decide), f_PMay]
    simp only [Option.bind_some, decide_eq_true_iff]
    exact (apply_ite some _ _ _).symm
  · rw [if_neg h3, if_neg h3]
theorem r_PGet (n : Nat) (hn : 100 ≤ n) (l : List Int) (hb : Bys l) : wayfinderref03_Get.f n l = some (pGetR l) := by
  unfold wayfinderref03_Get.f pGetR
  by_cases h1 : l.length < 18
  · rw [if_pos (by omega), if_pos h1]
  rw [if_neg (by omega), if_neg h1]
  by_cases h2 : l.length > 18
  · rw [if_pos (by omega), if_pos h2]
  rw [if_neg (by omega), if_neg h2, r_Sum n l hb (by omega) (by omega)]
  simp only [Option.bind_some]
  by_cases h3 : OM.ck l = 0
  · rw [if_pos h3, if_pos h3, r_GetAll n l hb (by omega) _ (by simp) (by simp; omega), pkt_ga l (by omega)]
    simp only [Option.bind_some, if_true, List.length_cons, List.length_nil]
    have q0 : rd [pv l 0 4, pv l 4 4, pv l 8 4, pv l 12 2, pv l 14 2] 0 = pv l 0 4 := rfl
    have q1 : rd [pv l 0 4, pv l 4 4, pv l 8 4, pv l 12 2, pv l 14 2] 1 = pv l 4 4 := rfl
    have q2 : rd [pv l 0 4, pv l 4 4, pv l 8 4, pv l 12 2, pv l 14 2] 2 = pv l 8 4 := rfl
    have q3 : rd [pv l 0 4, pv l 4 4, pv l 8 4, pv l 12 2, pv l 14 2] 3 = pv l 12 2 := rfl
    have q4 : rd [pv l 0 4, pv l 4 4, pv l 8 4, pv l 12 2, pv l 14 2] 4 = pv l 14 2 := rfl
    rw [q0, q1, q2, q3, q4, if_pos (by decide), if_pos (by decide), if_pos (by decide), if_pos (by decide), if_pos (by decide), r_PMay]
    simp only [Option.bind_some, decide_eq_true_iff]
    exact (apply_ite some _ _ _).symm
  · rw [if_neg h3, if_neg h3]
/-- the fields stand where they stand -/
theorem pkt_cut (a b c t g : Int) (rest : List Int) : ((pktHead a b c t g ++ rest).drop 0).take 4 = be a.toNat 4 ∧ ((pktHead a b c t g ++ rest).drop 4).take 4 = be b.toNat 4 ∧ ((pktHead a b c t g ++ rest).drop 8).take 4 = be c.toNat 4 ∧ ((pktHead a b c t g ++ rest).drop 12).take 2 = be t.toNat 2 ∧ ((pktHead a b c t g ++ rest).drop 14).take 2 = be g.toNat 2 ∧ (pktHead a b c t g ++ rest).drop 16 = rest := by
  have e : pktHead a b c t g ++ rest = be a.toNat 4 ++ (be b.toNat 4 ++ (be c.toNat 4 ++ (be t.toNat 2 ++ (be g.toNat 2 ++ rest)))) := by
    unfold pktHead
    simp only [List.append_assoc]
  rw [e]
  have d1 : (be a.toNat 4 ++ (be b.toNat 4 ++ (be c.toNat 4 ++ (be t.toNat 2 ++ (be g.toNat 2 ++ rest))))).drop 4 = be b.toNat 4 ++ (be c.toNat 4 ++ (be t.toNat 2 ++ (be g.toNat 2 ++ rest))) := List.drop_left' (be_length _ _)
  have d2 : (be a.toNat 4 ++ (be b.toNat 4 ++ (be c.toNat 4 ++ (be t.toNat 2 ++ (be g.toNat 2 ++ rest))))).drop 8 = be c.toNat 4 ++ (be t.toNat 2 ++ (be g.toNat 2 ++ rest)) := by
    rw [show 8 = 4 + 4 from rfl, ← List.drop_drop, d1]
    exact List.drop_left' (be_length _ _)
  have d3 : (be a.toNat 4 ++ (be b.toNat 4 ++ (be c.toNat 4 ++ (be t.toNat 2 ++ (be g.toNat 2 ++ rest))))).drop 12 = be t.toNat 2 ++ (be g.toNat 2 ++ rest) := by
    rw [show 12 = 8 + 4 from rfl, ← List.drop_drop, d2]
    exact List.drop_left' (be_length _ _)
  have d4 : (be a.toNat 4 ++ (be b.toNat 4 ++ (be c.toNat 4 ++ (be t.toNat 2 ++ (be g.toNat 2 ++ rest))))).drop 14 = be g.toNat 2 ++ rest := by
    rw [show 14 = 12 + 2 from rfl, ← List.drop_drop, d3]
    exact List.drop_left' (be_length _ _)
  have d5 : (be a.toNat 4 ++ (be b.toNat 4 ++ (be c.toNat 4 ++ (be t.toNat 2 ++ (be g.toNat 2 ++ rest))))).drop 16 = rest := by
    rw [show 16 = 14 + 2 from rfl, ← List.drop_drop, d4]
    exact List.drop_left' (be_length _ _)
  rw [d1, d2, d3, d4, d5, List.drop_zero]
  exact ⟨List.take_left' (be_length _ _), List.take_left' (be_length _ _), List.take_left' (be_length _ _), List.take_left' (be_length _ _), List.take_left' (be_length _ _), rfl⟩
theorem pkt_read {a b c t g : Int} (h : isPkt a b c t g) (rest : List Int) : pv (pktHead a b c t g ++ rest) 0 4 = a ∧ pv (pktHead a b c t g ++ rest) 4 4 = b ∧ pv (pktHead a b c t g ++ rest) 8 4 = c ∧ pv (pktHead a b c t g ++ rest) 12 2 = t ∧ pv (pktHead a b c t g ++ rest) 14 2 = g := by
  obtain ⟨h1, h2, h3, h4, h5⟩ := h
  obtain ⟨c0, c1, c2, c3, c4, _⟩ := pkt_cut a b c t g rest
  have p2 : (256 : Nat) ^ 2 = 65536 := rfl
  have p4 : (256 : Nat) ^ 4 = 4294967296 := rfl
  unfold pv
  rw [c0, c1, c2, c3, c4, val_be, val_be, val_be, val_be, val_be, p2, p4]
  clear c0 c1 c2 c3 c4 p2 p4
  refine ⟨?_, ?_, ?_, ?_, ?_⟩ <;> omega
theorem pkt_ck (a b c t g : Int) : OM.ck (pktBytes a b c t g) = 0 := OM.ck_self _ (pktHead_bytes _ _ _ _ _) (by rw [pktHead_length])
theorem pGet_put {a b c t g : Int} (h : isPkt a b c t g) : pGetR (pktBytes a b c t g) = (a, b, c, t, g, 0) := by
  have hl := pktBytes_length a b c t g
  obtain ⟨e0, e1, e2, e3, e4⟩ := pkt_read h [OM.ck (pktHead a b c t g) / 256 % 256, OM.ck (pktHead a b c t g) % 256]
  unfold pGetR
  rw [if_neg (by omega), if_neg (by omega), if_pos (pkt_ck _ _ _ _ _)]
  rw [show pv (pktBytes a b c t g) 0 4 = a from e0, show pv (pktBytes a b c t g) 4 4 = b from e1, show pv (pktBytes a b c t g) 8 4 = c from e2, show pv (pktBytes a b c t g) 12 2 = t from e3, show pv (pktBytes a b c t g) 14 2 = g from e4, if_pos h]
theorem pktHead_of (l : List Int) (hb : Bys l) (h : 16 ≤ l.length) : pktHead (pv l 0 4) (pv l 4 4) (pv l 8 4) (pv l 12 2) (pv l 14 2) = l.take 16 := by
  have g : ∀ a n : Nat, a + n ≤ l.length → be (pv l a n).toNat n = (l.drop a).take n := by
    intro a n han
    have hl : ((l.drop a).take n).length = n := by rw [List.length_take, List.length_drop]; omega
    have := be_val _ ((hb.drop a).take n)
    rw [hl] at this
    unfold pv
    rw [Int.toNat_natCast, this]
  unfold pktHead
  rw [g 0 4 (by omega), g 4 4 (by omega), g 8 4 (by omega), g 12 2 (by omega), g 14 2 (by omega), List.drop_zero]
  have t1 : l.take 16 = l.take 4 ++ (l.drop 4).take 12 := by rw [← List.take_add]
  have t2 : (l.drop 4).take 12 = (l.drop 4).take 4 ++ ((l.drop 4).drop 4).take 8 := by rw [← List.take_add]
  have t3 : ((l.drop 4).drop 4).take 8 = ((l.drop 4).drop 4).take 4 ++ (((l.drop 4).drop 4).drop 4).take 4 := by rw [← List.take_add]
  have t4 : (((l.drop 4).drop 4).drop 4).take 4 = (((l.drop 4).drop 4).drop 4).take 2 ++ ((((l.drop 4).drop 4).drop 4).drop 2).take 2 := by rw [← List.take_add]
  rw [t1, t2, t3, t4]
  simp only [List.drop_drop]
theorem last_two (l : List Int) (h : l.length = 18) : l = l.take 16 ++ [rd l 16, rd l 17] := by
  have e : l.drop 16 = [rd l 16, rd l 17] := by
    rw [List.drop_eq_getElem_cons (show 16 < l.length by omega), List.drop_eq_getElem_cons (show 17 < l.length by omega), List.drop_eq_nil_of_le (show l.length ≤ 17 + 1 by omega)]
    have q : ∀ (j : Nat) (hj : j < l.length), rd l (j : Int) = l[j] := fun j hj => by simp [rd, List.getD, hj]
    rw [show rd l 16 = l[16] from q 16 (by omega), show rd l 17 = l[17] from q 17 (by omega)]
  rw [← e, List.take_append_drop]
theorem pPut_get (l : List Int) (hb : Bys l) (h : (pGetR l).2.2.2.2.2 = 0) :
    l.length = 18 ∧ isPkt (pGetR l).1 (pGetR l).2.1 (pGetR l).2.2.1 (pGetR l).2.2.2.1 (pGetR l).2.2.2.2.1 ∧ pktHead (pGetR l).1 (pGetR l).2.1 (pGetR l).2.2.1 (pGetR l).2.2.2.1 (pGetR l).2.2.2.2.1 = l.take 16 ∧ OM.ck l = 0 := by
  unfold pGetR at h ⊢
  by_cases h1 : l.length < 18
  · rw [if_pos h1] at h; exact absurd h (by decide)
  simp only [if_neg h1] at h ⊢
  by_cases h2 : l.length > 18
  · rw [if_pos h2] at h; exact absurd h (by decide)
  simp only [if_neg h2] at h ⊢
  by_cases h3 : OM.ck l = 0
  · simp only [if_pos h3] at h ⊢
    by_cases h4 : isPkt (pv l 0 4) (pv l 4 4) (pv l 8 4) (pv l 12 2) (pv l 14 2)
    · simp only [if_pos h4]
      exact ⟨by omega, h4, pktHead_of l hb (by omega), h3⟩
    · rw [if_neg h4] at h; exact absurd h (by decide)
  · rw [if_neg h3] at h; exact absurd h (by decide)
theorem pGet_bad (l : List Int) (h : ¬ (pGetR l).2.2.2.2.2 = 0) : (pGetR l).1 = 0 ∧ (pGetR l).2.1 = 0 ∧ (pGetR l).2.2.1 = 0 ∧ (pGetR l).2.2.2.1 = 0 ∧ (pGetR l).2.2.2.2.1 = 0 := by
  unfold pGetR at h ⊢
  by_cases h1 : l.length < 18
  · simp only [if_pos h1]; simp
  simp only [if_neg h1] at h ⊢
  by_cases h2 : l.length > 18
  · simp only [if_pos h2]; simp
  simp only [if_neg h2] at h ⊢
  by_cases h3 : OM.ck l = 0
  · simp only [if_pos h3] at h ⊢
    by_cases h4 : isPkt (pv l 0 4) (pv l 4 4) (pv l 8 4) (pv l 12 2) (pv l 14 2)
    · rw [if_pos h4] at h; exact absurd rfl h
    · simp only [if_neg h4]; simp
  · simp only [if_neg h3]; simp
/-- bytes whose checksum is 0 end in the checksum of the others, or in 65535 -/
theorem ck_tail (m : List Int) (hb : Bys m) (he : m.length % 2 = 0) (x y : Int) (hx : 0 ≤ x ∧ x ≤ 255) (hy : 0 ≤ y ∧ y ≤ 255) (h : OM.ck (m ++ [x, y]) = 0) : (x = OM.ck m / 256 % 256 ∧ y = OM.ck m % 256) ∨ (x = 255 ∧ y = 255) := by
  have hbb : Bys (m ++ [x, y]) := hb.append (by intro z hz; simp only [List.mem_cons, List.not_mem_nil, or_false] at hz; rcases hz with rfl | rfl <;> omega)
  rw [OM.ck_zero_iff _ hbb, OM.SP_append, OM.par_len, if_pos he] at h
  simp only [OM.SP] at h
  have h0 := (OM.SP_nonneg true m hb).1
  unfold OM.ck
  generalize OM.SP true m = s at *
  have hF : OM.F s = if s = 0 then 0 else (s - 1) % 65535 + 1 := rfl
  by_cases hc : 256 * x + y = 65535
  · right
    omega
  · left
    have e : 65535 - OM.F s = 256 * x + y := by
      by_cases hs : s = 0
      · rw [if_pos hs] at hF
        omega
      · rw [if_neg hs] at hF
        omega
    rw [e]
    omega
theorem ck_tag (m : List Int) (hb : Bys m) (he : m.length % 2 = 0) (s t : Nat) (hs : s ≤ 4095) (ht : t ≤ 4095) (h : OM.ck (m ++ be s 2) = OM.ck (m ++ be t 2)) : s = t := by
  unfold OM.ck at h
  have e : ∀ q : Nat, q ≤ 4095 → OM.SP true (m ++ be q 2) = OM.SP true m + q := by
    intro q hq
    rw [OM.SP_append, OM.par_len, if_pos he]
    simp only [be, OM.SP]
    have h1 : q / 256 ^ 1 % 256 = q / 256 := by rw [Nat.pow_one]; omega
    have h2 : q / 256 ^ 0 % 256 = q % 256 := by rw [Nat.pow_zero, Nat.div_one]
    rw [h1, h2]
    omega
  rw [e s hs, e t ht] at h
  have h0 := (OM.SP_nonneg true m hb).1
  generalize OM.SP true m = u at *
  unfold OM.F at h
  split at h <;> split at h <;> omega
end Go.Proofs.YtkidokbeabmpmaaDoor.All
