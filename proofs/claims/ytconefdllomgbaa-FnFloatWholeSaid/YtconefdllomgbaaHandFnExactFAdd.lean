/- laws.FnExactFAdd, walked: the statements' sum is IEEE 754's. No condition. -/
import Derived.Test.YtconefdllomgbaaHandFnExactFDiv
import Derived.Test.YtconefdllomgbaaFAddS
namespace Go.Proofs.Ytconefdllomgbaa.PFnExactFAdd
open Go.RowKit Go.Proofs.Ytconefdllomgbaa.Aid Go.Proofs.Ytconefdllomgbaa.FPlain Go.Proofs.Ytconefdllomgbaa.FWalk Go.Proofs.Ytconefdllomgbaa.FOpen Go.Proofs.Ytconefdllomgbaa.FSpec Go.Proofs.Ytconefdllomgbaa.FAddS Go.Proofs.YtconefdllomgbaaW.PrintWords Go.Proofs.YtconefdllomgbaaW.PrintLast Go.Proofs.YtconefdllomgbaaW.PrintMore
set_option linter.unusedVariables false
set_option linter.unusedSimpArgs false
theorem bl_shift (m q : Nat) (hm : m ≠ 0) : bl (m * 2 ^ q) = bl m + q := by
  have hp := bl_pos m hm
  obtain ⟨k, hk⟩ : ∃ k, bl m = k + 1 := ⟨bl m - 1, by omega⟩
  have h1 := bl_le m hm
  have h2 := bl_lt m
  rw [hk] at h1 h2 ⊢
  rw [Nat.add_sub_cancel] at h1
  rw [show k + 1 + q = (k + q) + 1 by omega]
  refine PFnExactFDiv.bl_eq ?_ ?_
  · rw [Nat.pow_add]; exact Nat.mul_le_mul_right _ h1
  · rw [show k + q + 1 = (k + 1) + q by omega, Nat.pow_add]; exact Nat.mul_lt_mul_of_pos_right h2 (Nat.two_pow_pos q)
/-- A power of two goes from the number into the place. -/
theorem putR_shift (m q : Nat) (e : Int) : putR (m * 2 ^ q) e false = putR m (e + q) false := by
  by_cases z : m = 0
  · subst z
    have p0 : ∀ e b, putR 0 e b = 0 := fun _ _ => if_pos rfl
    rw [Nat.zero_mul, p0, p0]
  · have hb := bl_shift m q z
    have hl : lastOf (m * 2 ^ q) e = lastOf m (e + q) := by unfold lastOf; rw [hb]; omega
    unfold putR keptOf
    rw [if_neg z, if_neg (Nat.mul_ne_zero z (Nat.ne_of_gt (Nat.two_pow_pos q))), hl]
    generalize lastOf m (e + q) = L
    have key : rneS (m * 2 ^ q * 2 ^ (e - L).toNat) (2 ^ (L - e).toNat) false = rneS (m * 2 ^ (e + q - L).toNat) (2 ^ (L - (e + q)).toNat) false := by
      by_cases c1 : L ≤ e
      · rw [show (L - e).toNat = 0 by omega, show (L - (e + q)).toNat = 0 by omega, Nat.mul_assoc, ← Nat.pow_add, show q + (e - L).toNat = (e + q - L).toNat by omega]
      · rw [show (e - L).toNat = 0 by omega, Nat.pow_zero, Nat.mul_one]
        by_cases c2 : L ≤ e + q
        · rw [show (L - (e + q)).toNat = 0 by omega, Nat.pow_zero]
          have h1 : m * 2 ^ q = m * 2 ^ (e + q - L).toNat * 2 ^ (L - e).toNat := by
            rw [Nat.mul_assoc, ← Nat.pow_add, show (e + q - L).toNat + (L - e).toNat = q by omega]
          have := rneS_mul (m * 2 ^ (e + q - L).toNat) 1 (2 ^ (L - e).toNat) (Nat.two_pow_pos _) (by decide) false rfl
          rw [Nat.one_mul] at this
          rw [h1, this]
        · rw [show (e + q - L).toNat = 0 by omega, Nat.pow_zero, Nat.mul_one]
          have := rneS_mul m (2 ^ (L - (e + q)).toNat) (2 ^ q) (Nat.two_pow_pos _) (Nat.two_pow_pos _) false rfl
          rw [← Nat.pow_add, show (L - (e + q)).toNat + q = (L - e).toNat by omega] at this
          exact this
    rw [key]
/-- The last digits, told by the sticky bit alone. -/
theorem putR_drop (n d : Nat) (e : Int) (h : d = 0 ∨ 16777216 ≤ n / 2 ^ d) : putR (n / 2 ^ d) (e + d) (n % 2 ^ d != 0) = putR n e false := by
  by_cases c : 16777216 ≤ n / 2 ^ d
  · have h1 : 16777216 ≤ n / 1 := by rw [Nat.div_one]; exact Nat.le_trans c (Nat.div_le_self _ _)
    have e1 := PFnExactFDiv.putR_quot n (2 ^ d) (e + d) (Nat.two_pow_pos d) c
    have e2 := PFnExactFDiv.putR_quot n 1 e (by decide) h1
    rw [Nat.div_one, Nat.mod_one] at e2
    have e3 : putR n e false = PFnExactFDiv.ratR n 1 e := e2
    rw [e1, e3]
    have hbl : bl n = bl (n / 2 ^ d) + d := by
      obtain ⟨k, hk⟩ : ∃ k, bl (n / 2 ^ d) = k + 1 := ⟨bl (n / 2 ^ d) - 1, by have := bl_pos (n / 2 ^ d) (by omega); omega⟩
      have g1 := bl_le (n / 2 ^ d) (by omega)
      have g2 := bl_lt (n / 2 ^ d)
      rw [hk] at g1 g2 ⊢
      rw [Nat.add_sub_cancel] at g1
      rw [show k + 1 + d = (k + d) + 1 by omega]
      refine PFnExactFDiv.bl_eq ?_ ?_
      · rw [Nat.pow_add]; exact (Nat.le_div_iff_mul_le (Nat.two_pow_pos d)).1 g1
      · rw [show k + d + 1 = (k + 1) + d by omega, Nat.pow_add]; exact (Nat.div_lt_iff_lt_mul (Nat.two_pow_pos d)).1 g2
    have hl : lastOf (n / 2 ^ d) (e + d) = lastOf n e := by unfold lastOf; rw [hbl]; omega
    have hg := PFnExactFDiv.last_gt (e + d) c
    unfold PFnExactFDiv.ratR
    rw [Nat.div_one, hl, ← Nat.pow_add, Nat.one_mul]
    rw [hl] at hg
    rw [show d + (lastOf n e - (e + (d : Int))).toNat = (lastOf n e - e).toNat by omega]
  · rcases h with z | z
    · subst z
      rw [Nat.pow_zero, Nat.div_one, Nat.mod_one, show e + ((0 : Nat) : Int) = e by omega]; rfl
    · exact absurd z c
def sgnd (n : Bool) (R : Int) : Int := if n then -R else R
theorem signed_eq (n : Bool) (m up : Nat) : Ieee.signed n m up = sgnd n ((m * 2 ^ up : Nat) : Int) := by
  unfold Ieee.signed sgnd
  rw [Nat.shiftLeft_eq]
theorem sum_eq (s t : Bool) (m n : Nat) (i j : Int) : (Ieee.Datum.number s m i).sum (.number t n j) =
    some (.number (if Ieee.signed s m (i - min i j).toNat + Ieee.signed t n (j - min i j).toNat = 0 then s && t else decide (Ieee.signed s m (i - min i j).toNat + Ieee.signed t n (j - min i j).toNat < 0))
      (Ieee.signed s m (i - min i j).toNat + Ieee.signed t n (j - min i j).toNat).natAbs (min i j)) := rfl
theorem sum_comm (s t : Bool) (m n : Nat) (i j : Int) : (Ieee.Datum.number s m i).sum (.number t n j) = (Ieee.Datum.number t n j).sum (.number s m i) := by
  rw [sum_eq, sum_eq, Int.min_comm j i, Int.add_comm (Ieee.signed t n _), Bool.and_comm t s]
theorem sum_same (s : Bool) (P1 P2 D : Nat) (E1 E2 : Int) (hD : (D : Int) = E1 - E2) : datV ((Ieee.Datum.number s P1 E1).sum (.number s P2 E2)) = ((sgn s + putR (P1 * 2 ^ D + P2) E2 false : Nat) : Int) := by
  rw [sum_eq, show min E1 E2 = E2 by omega, show (E1 - E2).toNat = D by omega, show (E2 - E2).toNat = 0 by omega, signed_eq, signed_eq, Nat.pow_zero, Nat.mul_one, datV_num]
  have h1 : (sgnd s ((P1 * 2 ^ D : Nat) : Int) + sgnd s ((P2 : Nat) : Int)).natAbs = P1 * 2 ^ D + P2 := by
    unfold sgnd; cases s
    · rw [if_neg (by decide), if_neg (by decide)]; omega
    · rw [if_pos rfl, if_pos rfl]; omega
  rw [h1]
  by_cases z : sgnd s ((P1 * 2 ^ D : Nat) : Int) + sgnd s ((P2 : Nat) : Int) = 0
  · rw [if_pos z, Bool.and_self]
  · rw [if_neg z]
    have h2 : decide (sgnd s ((P1 * 2 ^ D : Nat) : Int) + sgnd s ((P2 : Nat) : Int) < 0) = s := by
      unfold sgnd at z ⊢; cases s
      · rw [if_neg (by decide), if_neg (by decide)] at z ⊢; exact decide_eq_false (by omega)
      · rw [if_pos rfl, if_pos rfl] at z ⊢; exact decide_eq_true (by omega)
    rw [h2]
theorem sum_diff (s t : Bool) (hst : s ≠ t) (P1 P2 D : Nat) (E1 E2 : Int) (hD : (D : Int) = E1 - E2) (hle : P2 ≤ P1 * 2 ^ D) :
    datV ((Ieee.Datum.number s P1 E1).sum (.number t P2 E2)) = if P1 * 2 ^ D - P2 = 0 then 0 else ((sgn s + putR (P1 * 2 ^ D - P2) E2 false : Nat) : Int) := by
  rw [sum_eq, show min E1 E2 = E2 by omega, show (E1 - E2).toNat = D by omega, show (E2 - E2).toNat = 0 by omega, signed_eq, signed_eq, Nat.pow_zero, Nat.mul_one, datV_num]
  have ht : t = !s := by cases s <;> cases t <;> simp_all
  subst ht
  have h1 : (sgnd s ((P1 * 2 ^ D : Nat) : Int) + sgnd (!s) ((P2 : Nat) : Int)).natAbs = P1 * 2 ^ D - P2 := by
    unfold sgnd; cases s
    · rw [if_neg (by decide), if_pos (by decide)]; omega
    · rw [if_pos rfl, if_neg (by decide)]; omega
  rw [h1]
  by_cases z : P1 * 2 ^ D - P2 = 0
  · have z' : sgnd s ((P1 * 2 ^ D : Nat) : Int) + sgnd (!s) ((P2 : Nat) : Int) = 0 := by omega
    rw [if_pos z', if_pos z, z]
    have : (s && !s) = false := by cases s <;> rfl
    rw [this]; rfl
  · have z' : ¬ sgnd s ((P1 * 2 ^ D : Nat) : Int) + sgnd (!s) ((P2 : Nat) : Int) = 0 := by omega
    rw [if_neg z', if_neg z]
    have h2 : decide (sgnd s ((P1 * 2 ^ D : Nat) : Int) + sgnd (!s) ((P2 : Nat) : Int) < 0) = s := by
      unfold sgnd; cases s
      · rw [if_neg (by decide), if_pos (by decide)]; exact decide_eq_false (by omega)
      · rw [if_pos rfl, if_neg (by decide)]; exact decide_eq_true (by omega)
    rw [h2]
/-- The shift by q and back. -/
theorem putR_q (N D q : Nat) (E1 E2 : Int) (hD : (D : Int) = E1 - E2) (h : D = 0 ∨ 16777216 ≤ N * 2 ^ q / 2 ^ D) :
    putR (N * 2 ^ q / 2 ^ D) (E1 - q) (N * 2 ^ q % 2 ^ D != 0) = putR N E2 false := by
  have h1 := putR_drop (N * 2 ^ q) D (E2 - q) h
  have h2 := putR_shift N q (E2 - q)
  rw [show E2 - (q : Int) + (D : Int) = E1 - q by omega] at h1
  rw [show E2 - (q : Int) + (q : Int) = E2 by omega] at h2
  rw [h1, h2]
theorem same_q (P1 P2 D q : Nat) (E1 E2 : Int) (hD : (D : Int) = E1 - E2) (h : D = 0 ∨ 16777216 ≤ P1 * 2 ^ q) :
    putR (P1 * 2 ^ q + P2 * 2 ^ q / 2 ^ D) (E1 - q) (P2 * 2 ^ q % 2 ^ D != 0) = putR (P1 * 2 ^ D + P2) E2 false := by
  have hN : (P1 * 2 ^ D + P2) * 2 ^ q = P2 * 2 ^ q + 2 ^ D * (P1 * 2 ^ q) := by
    rw [Nat.add_mul, Nat.add_comm, Nat.mul_comm P1, Nat.mul_assoc]
  have hdiv : (P1 * 2 ^ D + P2) * 2 ^ q / 2 ^ D = P1 * 2 ^ q + P2 * 2 ^ q / 2 ^ D := by
    rw [hN, Nat.add_mul_div_left _ _ (Nat.two_pow_pos D), Nat.add_comm]
  have hmod : (P1 * 2 ^ D + P2) * 2 ^ q % 2 ^ D = P2 * 2 ^ q % 2 ^ D := by
    rw [hN, Nat.add_mul_mod_self_left]
  have hp := putR_q (P1 * 2 ^ D + P2) D q E1 E2 hD (by
    rw [hdiv]
    rcases h with c | c
    · exact .inl c
    · right; exact Nat.le_trans c (Nat.le_add_right _ _))
  rw [hdiv, hmod] at hp
  exact hp
theorem diff_q (P1 P2 D q : Nat) (E1 E2 : Int) (hD : (D : Int) = E1 - E2) (hle : P2 ≤ P1 * 2 ^ D) (hm0 : P2 * 2 ^ q % 2 ^ D = 0) :
    P2 * 2 ^ q / 2 ^ D ≤ P1 * 2 ^ q ∧ putR (P1 * 2 ^ q - P2 * 2 ^ q / 2 ^ D) (E1 - q) false = putR (P1 * 2 ^ D - P2) E2 false ∧ (P1 * 2 ^ q - P2 * 2 ^ q / 2 ^ D = 0 ↔ P1 * 2 ^ D - P2 = 0) := by
  have hQ : 2 ^ D * (P2 * 2 ^ q / 2 ^ D) = P2 * 2 ^ q := by
    have := Nat.div_add_mod (P2 * 2 ^ q) (2 ^ D)
    rw [hm0, Nat.add_zero] at this; exact this
  have hle2 : P2 * 2 ^ q / 2 ^ D ≤ P1 * 2 ^ q := by
    have : P2 * 2 ^ q ≤ P1 * 2 ^ D * 2 ^ q := Nat.mul_le_mul_right _ hle
    rw [← hQ, Nat.mul_right_comm, Nat.mul_comm] at this
    exact Nat.le_of_mul_le_mul_right this (Nat.two_pow_pos D)
  have hsub : (P1 * 2 ^ q - P2 * 2 ^ q / 2 ^ D) * 2 ^ D = (P1 * 2 ^ D - P2) * 2 ^ q := by
    rw [Nat.sub_mul, Nat.sub_mul, Nat.mul_comm (P2 * 2 ^ q / 2 ^ D), hQ, Nat.mul_right_comm]
  refine ⟨hle2, ?_, ?_⟩
  · have s1 := putR_shift (P1 * 2 ^ q - P2 * 2 ^ q / 2 ^ D) D (E2 - q)
    have s2 := putR_shift (P1 * 2 ^ D - P2) q (E2 - q)
    rw [hsub, show E2 - (q : Int) + (D : Int) = E1 - q by omega] at s1
    rw [show E2 - (q : Int) + (q : Int) = E2 by omega] at s2
    rw [← s1, s2]
  · constructor
    · intro z
      rw [z, Nat.zero_mul] at hsub
      rcases Nat.mul_eq_zero.1 hsub.symm with c | c
      · exact c
      · have := Nat.two_pow_pos q; omega
    · intro z
      rw [z, Nat.zero_mul] at hsub
      rcases Nat.mul_eq_zero.1 hsub with c | c
      · exact c
      · have := Nat.two_pow_pos D; omega
theorem more_q (P1 P2 D q : Nat) (E1 E2 : Int) (hD : (D : Int) = E1 - E2) (hm0 : P2 * 2 ^ q % 2 ^ D ≠ 0) (hQ : P2 * 2 ^ q / 2 ^ D + 16777217 ≤ P1 * 2 ^ q) :
    putR (P1 * 2 ^ q - P2 * 2 ^ q / 2 ^ D - 1) (E1 - q) true = putR (P1 * 2 ^ D - P2) E2 false ∧ P1 * 2 ^ D - P2 ≠ 0 := by
  have hR := Nat.mod_lt (P2 * 2 ^ q) (Nat.two_pow_pos D)
  have hQR := Nat.div_add_mod (P2 * 2 ^ q) (2 ^ D)
  have hsub : (P1 * 2 ^ D - P2) * 2 ^ q = (2 ^ D - P2 * 2 ^ q % 2 ^ D) + 2 ^ D * (P1 * 2 ^ q - P2 * 2 ^ q / 2 ^ D - 1) := by
    rw [Nat.sub_mul, Nat.mul_right_comm, Nat.mul_comm (P1 * 2 ^ q)]
    have e1 : 2 ^ D * (P1 * 2 ^ q - P2 * 2 ^ q / 2 ^ D - 1) = 2 ^ D * (P1 * 2 ^ q) - 2 ^ D * (P2 * 2 ^ q / 2 ^ D) - 2 ^ D := by
      rw [Nat.mul_sub, Nat.mul_sub, Nat.mul_one]
    have e2 : 2 ^ D * (P2 * 2 ^ q / 2 ^ D) + 2 ^ D ≤ 2 ^ D * (P1 * 2 ^ q) := by
      have := Nat.mul_le_mul_left (2 ^ D) (show P2 * 2 ^ q / 2 ^ D + 1 ≤ P1 * 2 ^ q by omega)
      rw [Nat.mul_add, Nat.mul_one] at this
      exact this
    rw [e1]
    generalize 2 ^ D * (P2 * 2 ^ q / 2 ^ D) = A at *
    generalize 2 ^ D * (P1 * 2 ^ q) = B at *
    generalize P2 * 2 ^ q % 2 ^ D = R at *
    generalize 2 ^ D = G at *
    omega
  have hdiv : (P1 * 2 ^ D - P2) * 2 ^ q / 2 ^ D = P1 * 2 ^ q - P2 * 2 ^ q / 2 ^ D - 1 := by
    rw [hsub, Nat.add_mul_div_left _ _ (Nat.two_pow_pos D), Nat.div_eq_of_lt (by omega), Nat.zero_add]
  have hmod : ((P1 * 2 ^ D - P2) * 2 ^ q % 2 ^ D != 0) = true := by
    rw [hsub, Nat.add_mul_mod_self_left, Nat.mod_eq_of_lt (by omega)]
    exact bne_iff_ne.mpr (by omega)
  have hp := putR_q (P1 * 2 ^ D - P2) D q E1 E2 hD (.inr (by rw [hdiv]; omega))
  rw [hdiv, hmod] at hp
  refine ⟨hp, fun z => ?_⟩
  rw [z, Nat.zero_mul, Nat.zero_div] at hdiv; omega
theorem more_D (P2 D q : Nat) (hm0 : P2 * 2 ^ q % 2 ^ D ≠ 0) : q < D := by
  rcases Nat.lt_or_ge q D with c | c
  · exact c
  · exfalso; apply hm0
    rw [show q = (q - D) + D by omega, Nat.pow_add, ← Nat.mul_assoc, Nat.mul_mod_left]
theorem small_Q (P2 D q : Nat) (hP : P2 < 16777216) (h : q < D) : P2 * 2 ^ q / 2 ^ D < 8388608 := by
  refine (Nat.div_lt_iff_lt_mul (Nat.two_pow_pos D)).2 ?_
  have h5 : 2 ^ (q + 1) ≤ 2 ^ D := Nat.pow_le_pow_right (by decide) h
  have h6 := Nat.mul_le_mul_left 8388608 h5
  rw [Nat.pow_succ] at h6
  have h7 : P2 * 2 ^ q < 16777216 * 2 ^ q := Nat.mul_lt_mul_of_pos_right hP (Nat.two_pow_pos q)
  generalize 2 ^ q = G at *
  omega
theorem e30 : (2 : Nat) ^ 30 = 1073741824 := by decide
def lawV (a b : Int) : Int := datV ((Ieee.single.read (sgl a)).sum (Ieee.single.read (sgl b)))
section
variable {n1 n2 : Bool} {M1 M2 : Nat} {e1 e2 : Int} (h1 : M1 < 16777216) (h2 : -149 ≤ e1) (h3 : e1 ≤ 104) (h4 : -149 < e1 → 8388608 ≤ M1) (g1 : M2 < 16777216) (g2 : -149 ≤ e2) (g3 : e2 ≤ 104) (g4 : -149 < e2 → 8388608 ≤ M2)
include h1 h2 h3 h4 g1 g2 g3 g4
theorem ord_bd {a1 : Bool} {P1 : Nat} {E1 : Int} {a2 : Bool} {P2 : Nat} {E2 : Int} (h : Ordd n1 M1 e1 n2 M2 e2 a1 P1 E1 a2 P2 E2) : P1 < 16777216 ∧ P2 < 16777216 ∧ 0 ≤ E1 - E2 ∧ E1 - E2 ≤ 260 ∧ -149 ≤ E2 ∧ E1 ≤ 104 := by
  obtain ⟨h, ho⟩ := h
  rcases h with ⟨rfl, rfl, rfl, rfl, rfl, rfl⟩ | ⟨rfl, rfl, rfl, rfl, rfl, rfl⟩
  · exact ⟨by omega, by omega, by omega, by omega, by omega, by omega⟩
  · exact ⟨by omega, by omega, by omega, by omega, by omega, by omega⟩
theorem ord_low {a1 : Bool} {P1 : Nat} {E1 : Int} {a2 : Bool} {P2 : Nat} {E2 : Int} (h : Ordd n1 M1 e1 n2 M2 e2 a1 P1 E1 a2 P2 E2) : -149 < E1 → 8388608 ≤ P1 := by
  obtain ⟨h, ho⟩ := h
  rcases h with ⟨rfl, rfl, rfl, rfl, rfl, rfl⟩ | ⟨rfl, rfl, rfl, rfl, rfl, rfl⟩
  · exact h4
  · exact g4
omit h1 h2 h3 h4 g1 g2 g3 g4 in
theorem ord_sum {a1 : Bool} {P1 : Nat} {E1 : Int} {a2 : Bool} {P2 : Nat} {E2 : Int} (h : Ordd n1 M1 e1 n2 M2 e2 a1 P1 E1 a2 P2 E2) :
    (Ieee.Datum.number n1 M1 e1).sum (.number n2 M2 e2) = (Ieee.Datum.number a1 P1 E1).sum (.number a2 P2 E2) := by
  obtain ⟨h, ho⟩ := h
  rcases h with ⟨rfl, rfl, rfl, rfl, rfl, rfl⟩ | ⟨rfl, rfl, rfl, rfl, rfl, rfl⟩
  · rfl
  · exact sum_comm _ _ _ _ _ _
theorem same_ok (a1 : Bool) (P1 : Nat) (E1 : Int) (a2 : Bool) (P2 : Nat) (E2 : Int) (k : Int) (more : Bool) (h : Ordd n1 M1 e1 n2 M2 e2 a1 P1 E1 a2 P2 E2) (hk : Al P2 E1 E2 k more) (ha : a1 = a2) (w : World) :
    Calls Try.prog 29 #[.bool a1, .int .i64 (wrap64 (wrap64 ((P1 : Int) * 1073741824) + k)), .int .i64 (wrap64 (E1 - 30)), .bool more] w
      fun e w' => e = .returned (.int .i64 (datV ((Ieee.Datum.number n1 M1 e1).sum (.number n2 M2 e2)))) ∧ Drawn0 w w' := by
  subst ha
  obtain ⟨b1, b2, b3, b4, b5, b6⟩ := ord_bd h1 h2 h3 h4 g1 g2 g3 g4 h
  have b7 := ord_low h1 h2 h3 h4 g1 g2 g3 g4 h
  obtain ⟨D, hD, rfl, rfl⟩ := hk
  obtain ⟨X2, hX2⟩ : ∃ X, P2 * 1073741824 = X := ⟨_, rfl⟩
  obtain ⟨X1, hX1⟩ : ∃ X, P1 * 1073741824 = X := ⟨_, rfl⟩
  rw [hX2]
  have hp := same_q P1 P2 D 30 E1 E2 hD (by
    rw [e30, hX1]
    rcases Nat.eq_zero_or_pos D with c | c
    · exact .inl c
    · right
      have := b7 (by omega)
      omega)
  rw [e30, hX1, hX2] at hp
  have hq : X2 / 2 ^ D ≤ X2 := Nat.div_le_self _ _
  rw [ord_sum h, sum_same a1 P1 P2 D E1 E2 hD, ← hp]
  have h1i : (P1 : Int) * 1073741824 = (X1 : Int) := by omega
  have l1 : X1 < 18014398509481984 := by omega
  have l2 : X2 < 18014398509481984 := by omega
  obtain ⟨Q, hQ⟩ : ∃ Q, X2 / 2 ^ D = Q := ⟨_, rfl⟩
  rw [hQ] at hq ⊢
  have hc : wrap64 (wrap64 ((P1 : Int) * 1073741824) + (Q : Int)) = ((X1 + Q : Nat) : Int) := by
    rw [h1i, wid (x := (X1 : Int)) (by omega) (by omega), wid (by omega) (by omega)]; omega
  rw [hc, wid (x := E1 - 30) (by omega) (by omega)]
  exact put_calls a1 (X1 + Q) (E1 - 30) _ (Nat.lt_of_lt_of_le (Nat.add_lt_add l1 (Nat.lt_of_le_of_lt hq l2)) (by decide)) (by omega) w
theorem diff_le {a1 : Bool} {P1 : Nat} {E1 : Int} {a2 : Bool} {P2 : Nat} {E2 : Int} (h : Ordd n1 M1 e1 n2 M2 e2 a1 P1 E1 a2 P2 E2) (D : Nat) (hD : (D : Int) = E1 - E2) : P2 ≤ P1 * 2 ^ D := by
  obtain ⟨b1, b2, b3, b4, b5, b6⟩ := ord_bd h1 h2 h3 h4 g1 g2 g3 g4 h
  have b7 := ord_low h1 h2 h3 h4 g1 g2 g3 g4 h
  cases D with
  | zero =>
    rcases h.2 with c | c
    · omega
    · rw [Nat.pow_zero]; omega
  | succ D =>
    have := b7 (by omega)
    have hp := Nat.two_pow_pos D
    have : 8388608 * 2 ≤ P1 * 2 ^ (D + 1) := Nat.mul_le_mul this (by rw [Nat.pow_succ]; omega)
    omega
theorem diff_ok (a1 : Bool) (P1 : Nat) (E1 : Int) (a2 : Bool) (P2 : Nat) (E2 : Int) (k : Int) (h : Ordd n1 M1 e1 n2 M2 e2 a1 P1 E1 a2 P2 E2) (hk : Al P2 E1 E2 k false) (ha : ¬ a1 = a2) :
    ¬ wrap64 (wrap64 ((P1 : Int) * 1073741824) - k) < 0 ∧
    (wrap64 (wrap64 ((P1 : Int) * 1073741824) - k) = 0 → ∀ w, Calls Try.prog 29 #[.bool false, .int .i64 (wrap64 (wrap64 ((P1 : Int) * 1073741824) - k)), .int .i64 (wrap64 (E1 - 30)), .bool false] w
      fun e w' => e = .returned (.int .i64 (datV ((Ieee.Datum.number n1 M1 e1).sum (.number n2 M2 e2)))) ∧ Drawn0 w w') ∧
    (¬ wrap64 (wrap64 ((P1 : Int) * 1073741824) - k) = 0 → ∀ w, Calls Try.prog 29 #[.bool a1, .int .i64 (wrap64 (wrap64 ((P1 : Int) * 1073741824) - k)), .int .i64 (wrap64 (E1 - 30)), .bool false] w
      fun e w' => e = .returned (.int .i64 (datV ((Ieee.Datum.number n1 M1 e1).sum (.number n2 M2 e2)))) ∧ Drawn0 w w') := by
  obtain ⟨b1, b2, b3, b4, b5, b6⟩ := ord_bd h1 h2 h3 h4 g1 g2 g3 g4 h
  obtain ⟨D, hD, rfl, hm⟩ := hk
  have hle := diff_le h1 h2 h3 h4 g1 g2 g3 g4 h D hD
  obtain ⟨X2, hX2⟩ : ∃ X, P2 * 1073741824 = X := ⟨_, rfl⟩
  obtain ⟨X1, hX1⟩ : ∃ X, P1 * 1073741824 = X := ⟨_, rfl⟩
  rw [hX2] at hm ⊢
  have hm0 : X2 % 2 ^ D = 0 := by
    rcases Nat.eq_zero_or_pos (X2 % 2 ^ D) with c | c
    · exact c
    · have : (X2 % 2 ^ D != 0) = true := bne_iff_ne.mpr (by omega)
      rw [this] at hm; exact absurd hm (by decide)
  obtain ⟨hle2, hp, hz⟩ := diff_q P1 P2 D 30 E1 E2 hD hle (by rw [e30, hX2]; exact hm0)
  rw [e30, hX1, hX2] at hle2 hp hz
  have hq : X2 / 2 ^ D ≤ X2 := Nat.div_le_self _ _
  have h1i : (P1 : Int) * 1073741824 = (X1 : Int) := by omega
  have l1 : X1 < 18014398509481984 := by omega
  rw [ord_sum h, sum_diff a1 a2 ha P1 P2 D E1 E2 hD hle, ← hp]
  obtain ⟨Q, hQ⟩ : ∃ Q, X2 / 2 ^ D = Q := ⟨_, rfl⟩
  rw [hQ] at hq hle2 hz ⊢
  have hc : wrap64 (wrap64 ((P1 : Int) * 1073741824) - (Q : Int)) = ((X1 - Q : Nat) : Int) := by
    rw [h1i, wid (x := (X1 : Int)) (by omega) (by omega), wid (by omega) (by omega)]; omega
  have hbd : X1 - Q < 4611686018427387904 := by omega
  rw [hc, wid (x := E1 - 30) (by omega) (by omega)]
  refine ⟨by omega, fun z w => ?_, fun z w => ?_⟩
  · have z' : X1 - Q = 0 := by omega
    rw [if_pos (hz.1 z')]
    have := put_calls false (X1 - Q) (E1 - 30) false hbd (by omega) w
    have p0 : ∀ e b, putR 0 e b = 0 := fun _ _ => if_pos rfl
    have s0 : sgn false = 0 := rfl
    rw [z', p0, s0] at this
    rw [z']
    exact this
  · have z' : ¬ X1 - Q = 0 := by omega
    rw [if_neg (fun q => z' (hz.2 q))]
    exact put_calls a1 (X1 - Q) (E1 - 30) false hbd (by omega) w
theorem more_ok (a1 : Bool) (P1 : Nat) (E1 : Int) (a2 : Bool) (P2 : Nat) (E2 : Int) (k : Int) (h : Ordd n1 M1 e1 n2 M2 e2 a1 P1 E1 a2 P2 E2) (hk : Al P2 E1 E2 k true) (ha : ¬ a1 = a2) :
    ¬ wrap64 (wrap64 (wrap64 ((P1 : Int) * 1073741824) - k) - 1) < 0 ∧ ¬ wrap64 (wrap64 (wrap64 ((P1 : Int) * 1073741824) - k) - 1) = 0 ∧
    ∀ w, Calls Try.prog 29 #[.bool a1, .int .i64 (wrap64 (wrap64 (wrap64 ((P1 : Int) * 1073741824) - k) - 1)), .int .i64 (wrap64 (E1 - 30)), .bool true] w
      fun e w' => e = .returned (.int .i64 (datV ((Ieee.Datum.number n1 M1 e1).sum (.number n2 M2 e2)))) ∧ Drawn0 w w' := by
  obtain ⟨b1, b2, b3, b4, b5, b6⟩ := ord_bd h1 h2 h3 h4 g1 g2 g3 g4 h
  have b7 := ord_low h1 h2 h3 h4 g1 g2 g3 g4 h
  obtain ⟨D, hD, rfl, hm⟩ := hk
  have hle := diff_le h1 h2 h3 h4 g1 g2 g3 g4 h D hD
  obtain ⟨X2, hX2⟩ : ∃ X, P2 * 1073741824 = X := ⟨_, rfl⟩
  obtain ⟨X1, hX1⟩ : ∃ X, P1 * 1073741824 = X := ⟨_, rfl⟩
  rw [hX2] at hm ⊢
  have hm0 : X2 % 2 ^ D ≠ 0 := bne_iff_ne.mp hm.symm
  have hm1 : P2 * 2 ^ 30 % 2 ^ D ≠ 0 := by rw [e30, hX2]; exact hm0
  have hD31 := more_D P2 D 30 hm1
  have hP1 := b7 (by omega)
  have hQs := small_Q P2 D 30 b2 hD31
  rw [e30, hX2] at hQs
  have h1i : (P1 : Int) * 1073741824 = (X1 : Int) := by omega
  have l1 : X1 < 18014398509481984 := by omega
  have l0 : 9007199254740992 ≤ X1 := by omega
  obtain ⟨hp, hnz⟩ := more_q P1 P2 D 30 E1 E2 hD hm1 (by rw [e30, hX1, hX2]; omega)
  rw [e30, hX1, hX2] at hp
  rw [ord_sum h, sum_diff a1 a2 ha P1 P2 D E1 E2 hD hle, if_neg hnz, ← hp]
  obtain ⟨Q, hQ⟩ : ∃ Q, X2 / 2 ^ D = Q := ⟨_, rfl⟩
  rw [hQ] at hQs ⊢
  have hc : wrap64 (wrap64 (wrap64 ((P1 : Int) * 1073741824) - (Q : Int)) - 1) = ((X1 - Q - 1 : Nat) : Int) := by
    rw [h1i, wid (x := (X1 : Int)) (by omega) (by omega), wid (x := (X1 : Int) - (Q : Int)) (by omega) (by omega), wid (by omega) (by omega)]; omega
  rw [hc, wid (x := E1 - 30) (by omega) (by omega)]
  refine ⟨by omega, by omega, fun w => ?_⟩
  exact put_calls a1 (X1 - Q - 1) (E1 - 30) true (by omega) (by omega) w
end
theorem lawS (a b : Int) (w : World) : Calls Try.prog 11 #[.int .i64 a, .int .i64 b] w fun e w' => e = .returned (.int .i64 (lawV a b)) ∧ Below w.heap.size w w' := by
  cases opened a with
  | nan n1 h hr hf =>
    obtain ⟨s, t, hr⟩ := hr
    have hv : lawV a b = 2143289344 := by unfold lawV; rw [hr]; rfl
    rw [hv]
    cases opened b with
    | nan n2 h2 hr2 hf2 => exact FAddS.nan_any a b 0 n1 n2 2 0 0 (open_calls hf) (open_calls hf2) w
    | inf n2 ha2 hs2 hr2 hf2 => exact FAddS.nan_any a b 0 n1 n2 1 0 0 (open_calls hf) (open_calls hf2) w
    | num n2 m2 e2 h1 h2 h3 h4 ha2 hs2 hr2 hf2 => exact FAddS.nan_any a b 0 n1 n2 0 m2 e2 (open_calls hf) (open_calls hf2) w
  | inf n1 ha hs hr hf =>
    cases opened b with
    | nan n2 h2 hr2 hf2 =>
      obtain ⟨s, t, hr2⟩ := hr2
      have hv : lawV a b = 2143289344 := by unfold lawV; rw [hr, hr2]; rfl
      rw [hv]; exact FAddS.any_nan a b 0 n1 n2 1 0 0 rfl (open_calls hf) (open_calls hf2) w
    | inf n2 ha2 hs2 hr2 hf2 =>
      by_cases c : n1 = n2
      · subst c
        have hv : lawV a b = ((sgn n1 + 2139095040 : Nat) : Int) := by
          unfold lawV; rw [hr, hr2, ← datV_inf]
          unfold Ieee.Datum.sum; simp
        rw [hv]; exact FAddS.inf_inf a b _ n1 n1 (by cases n1 <;> rfl) (by cases n1 <;> rfl) (inf_calls _) (open_calls hf) (open_calls hf2) w
      · have hv : lawV a b = 2143289344 := by
          unfold lawV; rw [hr, hr2]
          have : (Ieee.Datum.infinity n1).sum (.infinity n2) = none := by unfold Ieee.Datum.sum; simp [c]
          rw [this]; rfl
        rw [hv]; exact FAddS.inf_not a b 0 n1 n2 (beq_eq_false_iff_ne.mpr c) (bne_iff_ne.mpr c) (open_calls hf) (open_calls hf2) w
    | num n2 m2 e2 h1 h2 h3 h4 ha2 hs2 hr2 hf2 =>
      have hv : lawV a b = ((sgn n1 + 2139095040 : Nat) : Int) := by unfold lawV; rw [hr, hr2]; exact datV_inf _
      rw [hv]; exact FAddS.inf_num a b _ n1 n2 m2 e2 (inf_calls _) (open_calls hf) (open_calls hf2) w
  | num n1 m1 e1 g1 g2 g3 g4 ha hs hr hf =>
    cases opened b with
    | nan n2 h2 hr2 hf2 =>
      obtain ⟨s, t, hr2⟩ := hr2
      have hv : lawV a b = 2143289344 := by unfold lawV; rw [hr, hr2]; rfl
      rw [hv]; exact FAddS.any_nan a b 0 n1 n2 0 m1 e1 rfl (open_calls hf) (open_calls hf2) w
    | inf n2 ha2 hs2 hr2 hf2 =>
      have hv : lawV a b = ((sgn n2 + 2139095040 : Nat) : Int) := by unfold lawV; rw [hr, hr2]; exact datV_inf _
      rw [hv]; exact FAddS.num_inf a b _ n1 n2 m1 e1 (inf_calls _) (open_calls hf) (open_calls hf2) w
    | num n2 m2 e2 h1 h2 h3 h4 ha2 hs2 hr2 hf2 =>
      have hv : lawV a b = datV ((Ieee.Datum.number n1 m1 e1).sum (.number n2 m2 e2)) := by unfold lawV; rw [hr, hr2]
      rw [hv]
      exact FAddS.num_num a b _ n1 n2 m1 e1 m2 e2 (fun _ _ _ _ _ _ h => ord_bd g1 g2 g3 g4 h1 h2 h3 h4 h) (same_ok g1 g2 g3 g4 h1 h2 h3 h4) (diff_ok g1 g2 g3 g4 h1 h2 h3 h4) (more_ok g1 g2 g3 g4 h1 h2 h3 h4) (open_calls hf) (open_calls hf2) w
theorem lawI (a b : Int) (w : World) : Calls Try.prog 12 #[.int .i64 a, .int .i64 b] w fun e w' => e = .returned (.int .i64 (lawV a b)) ∧ Below w.heap.size w w' := by
  have h : lawV a b = opV .add a b := (opV_of rfl).symm
  rw [h]; exact add_calls a b w
set_option maxRecDepth 100000 in
set_option maxHeartbeats 4000000 in
theorem laws_FnExactFAdd.calls (a0 : Int) (a1 : Int) (r : Bool) (w : World) (h : r = true) :
    Calls Try.prog 3 #[.int .i64 a0, .int .i64 a1] w fun e w' => e = .returned (.bool r) ∧ Below w.heap.size w w' := by
  subst h
  have hS := lawS a0 a1
  have hI := lawI a0 a1
  generalize lawV a0 a1 = v at hS hI
  go_enter Try.func3, Try.ntmps3
  go_wp2_with fail
  refine (hS _).mono ?_
  rintro e w1 ⟨rfl, b1⟩
  go_wp2_with fail
  refine (hI _).mono ?_
  rintro e w2 ⟨rfl, b2⟩
  go_wp2_with fail
  go_ret
  exact ⟨rfl, below_step b1 b2⟩
end Go.Proofs.Ytconefdllomgbaa.PFnExactFAdd
namespace Go.Proofs.Ytconefdllomgbaa.Pure
set_option linter.unusedVariables false in
theorem FnExactFAdd (a0 a1 : Int) (w0 : (Lit.int .i64 a0).wf = true) (w1 : (Lit.int .i64 a1).wf = true) : true = true := rfl
end Go.Proofs.Ytconefdllomgbaa.Pure
