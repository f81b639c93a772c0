/- Doubles: a float made a double is exact, and so is a whole number below 2 ^ 62 of at most 53 digits. No condition. -/
import Ieee.Arith
import Derived.Test.YtconefdllomgbaaFPlain
namespace Go.Proofs.Ytconefdllomgbaa.FDouble
open Go.Proofs.Ytconefdllomgbaa.FPlain
set_option linter.unusedVariables false
set_option linter.unusedSimpArgs false
theorem dread_eq (b : Nat) : Ieee.double.read b =
    (if b % 9223372036854775808 < 4503599627370496 then .number (b / 9223372036854775808 % 2 == 1) (b % 9223372036854775808) (-1074)
     else if b % 9223372036854775808 < 9218868437227405312 then .number (b / 9223372036854775808 % 2 == 1) (4503599627370496 + b % 9223372036854775808 % 4503599627370496) (-1074 + (b % 9223372036854775808 / 4503599627370496 - 1 : Nat))
     else if b % 9223372036854775808 = 9218868437227405312 then .infinity (b / 9223372036854775808 % 2 == 1) else .nan (b / 9223372036854775808 % 2 == 1) (b % 9223372036854775808 - 9218868437227405312)) := rfl
theorem dword (n : Bool) (r : Nat) : Ieee.double.word n r = (if n then 9223372036854775808 else 0) + r := by
  unfold Ieee.Format.word
  have : Ieee.double.signWeight = 9223372036854775808 := rfl
  rw [this]; cases n <;> simp
theorem under_inf (A k : Nat) (h : A ≤ 2021) (h2 : k < 9007199254740992) : A * 4503599627370496 + k ≤ 9218868437227405312 := by omega
/-- A number of at most 53 digits, neither too great nor too small: exact. -/
theorem dexact (n : Bool) (m : Nat) (e : Int) (hm : m ≠ 0) (h53 : bl m ≤ 53) (h1 : -1074 ≤ e + bl m - 53) (h2 : e + bl m ≤ 1000) :
    Ieee.double.read (Ieee.double.write (.number n m e)) = .number n (m * 2 ^ (53 - bl m)) (e + bl m - 53) := by
  have hp := bl_pos m hm
  have hlow := bl_le m hm
  have hupp := bl_lt m
  have hl : max (e + (m.log2 : Int) - (Ieee.double.fractionBits : Int)) Ieee.double.leastPlace = e + bl m - 53 := by
    have e1 : (Ieee.double.fractionBits : Int) = 52 := rfl
    have e2 : Ieee.double.leastPlace = -1074 := rfl
    have e3 : bl m = m.log2 + 1 := by unfold bl; rw [if_neg hm]
    rw [e1, e2]; omega
  have hk1 : 4503599627370496 ≤ m * 2 ^ (53 - bl m) := by
    have := Nat.mul_le_mul_right (2 ^ (53 - bl m)) hlow
    rw [← Nat.pow_add, show bl m - 1 + (53 - bl m) = 52 by omega] at this
    have e52 : (2 : Nat) ^ 52 = 4503599627370496 := by decide
    omega
  have hk2 : m * 2 ^ (53 - bl m) < 9007199254740992 := by
    have := Nat.mul_lt_mul_of_pos_right hupp (Nat.two_pow_pos (53 - bl m))
    rw [← Nat.pow_add, show bl m + (53 - bl m) = 53 by omega] at this
    have e53 : (2 : Nat) ^ 53 = 9007199254740992 := by decide
    omega
  have hw : Ieee.double.write (.number n m e) = (if n then 9223372036854775808 else 0) + ((e + bl m + 1021).toNat * 4503599627370496 + m * 2 ^ (53 - bl m)) := by
    show Ieee.double.nearest n m e = _
    unfold Ieee.Format.nearest
    rw [if_neg hm]
    simp only [hl]
    rw [cut_eq, Nat.shiftLeft_eq, dword, show (e - (e + bl m - 53)).toNat = 53 - bl m by omega, show (e + bl m - 53 - e).toNat = 0 by omega, Nat.pow_zero, rneS_one]
    have e2 : Ieee.double.leastPlace = -1074 := rfl
    have e3 : Ieee.double.binade = 4503599627370496 := rfl
    have e4 : Ieee.double.infRung = 9218868437227405312 := rfl
    rw [e2, e3, e4, show (e + bl m - 53 - -1074).toNat = (e + bl m + 1021).toNat by omega]
    have hA : (e + bl m + 1021).toNat ≤ 2021 := by omega
    have hmin : (e + bl m + 1021).toNat * 4503599627370496 + m * 2 ^ (53 - bl m) ≤ 9218868437227405312 := under_inf _ _ hA hk2
    rw [Nat.min_eq_left hmin]
  rw [hw, dread_eq]
  generalize m * 2 ^ (53 - bl m) = k at *
  have hs : ∃ s, (if n then 9223372036854775808 else 0) = s * 9223372036854775808 ∧ s < 2 ∧ (s == 1) = n := by
    cases n
    · exact ⟨0, rfl, by decide, rfl⟩
    · exact ⟨1, rfl, by decide, rfl⟩
  obtain ⟨s, hs1, hs2, hs3⟩ := hs
  rw [hs1]
  generalize hq : (e + bl m + 1021).toNat = q
  have hmod : (s * 9223372036854775808 + (q * 4503599627370496 + k)) % 9223372036854775808 = q * 4503599627370496 + k := by omega
  have hdiv : (s * 9223372036854775808 + (q * 4503599627370496 + k)) / 9223372036854775808 % 2 = s := by omega
  rw [hmod, hdiv, if_neg (by omega), if_pos (by omega), hs3]
  congr 1 <;> omega
theorem dzero (n : Bool) (e : Int) : Ieee.double.read (Ieee.double.write (.number n 0 e)) = .number n 0 (-1074) := by
  have : Ieee.double.write (.number n 0 e) = (if n then 9223372036854775808 else 0) := by
    show Ieee.double.nearest n 0 e = _
    unfold Ieee.Format.nearest
    rw [if_pos rfl, dword]; omega
  rw [this]
  cases n <;> rfl
/-- A power of two goes from the number into the place. -/
theorem dshift (n : Bool) (p q : Nat) (e : Int) (hp : p ≠ 0) : Ieee.double.write (.number n (p * 2 ^ q) e) = Ieee.double.write (.number n p (e + q)) := by
  have hpq : p * 2 ^ q ≠ 0 := Nat.mul_ne_zero hp (Nat.ne_of_gt (Nat.two_pow_pos q))
  have hlow := Nat.log2_self_le hp
  have hupp := lt_pow_log p
  have hlog : (p * 2 ^ q).log2 = p.log2 + q := by
    refine (Nat.log2_eq_iff hpq).2 ⟨?_, ?_⟩
    · rw [Nat.pow_add]; exact Nat.mul_le_mul_right _ hlow
    · rw [show p.log2 + q + 1 = (p.log2 + 1) + q by omega, Nat.pow_add]; exact Nat.mul_lt_mul_of_pos_right hupp (Nat.two_pow_pos q)
  show Ieee.double.nearest n (p * 2 ^ q) e = Ieee.double.nearest n p (e + q)
  unfold Ieee.Format.nearest
  rw [if_neg hp, if_neg hpq, hlog, show e + ((p.log2 + q : Nat) : Int) - (Ieee.double.fractionBits : Int) = e + q + (p.log2 : Int) - (Ieee.double.fractionBits : Int) by omega]
  simp only
  generalize max (e + q + (p.log2 : Int) - (Ieee.double.fractionBits : Int)) Ieee.double.leastPlace = L
  have key : Ieee.Toward.even.cut n ((p * 2 ^ q) <<< (e - L).toNat) (L - e).toNat = Ieee.Toward.even.cut n (p <<< (e + q - L).toNat) (L - (e + q)).toNat := by
    rw [cut_eq, cut_eq, Nat.shiftLeft_eq, Nat.shiftLeft_eq]
    by_cases c1 : L ≤ e
    · rw [show (L - e).toNat = 0 by omega, show (L - (e + q)).toNat = 0 by omega, Nat.mul_assoc, ← Nat.pow_add, show q + (e - L).toNat = (e + q - L).toNat by omega]
    · rw [show (e - L).toNat = 0 by omega, Nat.pow_zero, Nat.mul_one]
      by_cases c2 : L ≤ e + q
      · rw [show (L - (e + q)).toNat = 0 by omega, Nat.pow_zero]
        have h1 : p * 2 ^ q = p * 2 ^ (e + q - L).toNat * 2 ^ (L - e).toNat := by
          rw [Nat.mul_assoc, ← Nat.pow_add, show (e + q - L).toNat + (L - e).toNat = q by omega]
        have := rneS_mul (p * 2 ^ (e + q - L).toNat) 1 (2 ^ (L - e).toNat) (Nat.two_pow_pos _) (by decide) false rfl
        rw [Nat.one_mul] at this
        rw [h1, this]
      · rw [show (e + q - L).toNat = 0 by omega, Nat.pow_zero, Nat.mul_one]
        have := rneS_mul p (2 ^ (L - (e + q)).toNat) (2 ^ q) (Nat.two_pow_pos _) (Nat.two_pow_pos _) false rfl
        rw [← Nat.pow_add, show (L - (e + q)).toNat + q = (L - e).toNat by omega] at this
        exact this
  rw [key]
def sgnd (n : Bool) (R : Int) : Int := if n then -R else R
/-- What a whole double is as an int. -/
theorem dtoInt (n : Bool) (p q : Nat) (hp : bl p ≤ 53) (hq : q ≤ 9) : (Ieee.double.read (Ieee.double.write (.number n (p * 2 ^ q) 0))).toInt .zero = some (sgnd n ((p * 2 ^ q : Nat) : Int)) := by
  have hsg : ∀ n m, Ieee.signed n m 0 = sgnd n (m : Int) := by intro n m; unfold Ieee.signed sgnd; rw [Nat.shiftLeft_zero]
  by_cases z : p = 0
  · subst z
    rw [Nat.zero_mul, dzero]
    show some (Ieee.signed n (Ieee.Toward.zero.cut n (0 <<< (0 : Nat)) 1074) 0) = _
    have : Ieee.Toward.zero.cut n (0 <<< (0 : Nat)) 1074 = 0 := by cases n <;> rfl
    rw [this, hsg]
  · have hbl := bl_pos p z
    have hlow := bl_le p z
    have hupp := bl_lt p
    rw [dshift n p q 0 z, dexact n p (0 + q) z hp (by omega) (by omega)]
    show some (Ieee.signed n (Ieee.Toward.zero.cut n ((p * 2 ^ (53 - bl p)) <<< (0 + (q : Int) + bl p - 53).toNat) (-(0 + (q : Int) + bl p - 53)).toNat) 0) = _
    rw [hsg]
    congr 3
    unfold Ieee.Toward.cut
    simp only [Bool.toNat_false, Nat.add_zero, Nat.one_shiftLeft]
    rw [Nat.shiftLeft_eq, Nat.mul_assoc, ← Nat.pow_add]
    by_cases c : 53 ≤ q + bl p
    · rw [show (-(0 + (q : Int) + bl p - 53)).toNat = 0 by omega, Nat.zero_min, Nat.pow_zero, Nat.div_one, show 53 - bl p + (0 + (q : Int) + bl p - 53).toNat = q by omega]
    · rw [show (0 + (q : Int) + bl p - 53).toNat = 0 by omega, Nat.add_zero]
      have hlog : (p * 2 ^ (53 - bl p)).log2 = 52 := by
        have hne : p * 2 ^ (53 - bl p) ≠ 0 := Nat.mul_ne_zero z (Nat.ne_of_gt (Nat.two_pow_pos _))
        refine (Nat.log2_eq_iff hne).2 ⟨?_, ?_⟩
        · have := Nat.mul_le_mul_right (2 ^ (53 - bl p)) hlow
          rwa [← Nat.pow_add, show bl p - 1 + (53 - bl p) = 52 by omega] at this
        · have := Nat.mul_lt_mul_of_pos_right hupp (Nat.two_pow_pos (53 - bl p))
          rwa [← Nat.pow_add, show bl p + (53 - bl p) = 52 + 1 by omega] at this
      rw [hlog, Nat.min_eq_left (by omega), show (-(0 + (q : Int) + bl p - 53)).toNat = 53 - bl p - q by omega]
      have : p * 2 ^ (53 - bl p) = p * 2 ^ q * 2 ^ (53 - bl p - q) := by rw [Nat.mul_assoc, ← Nat.pow_add, show q + (53 - bl p - q) = 53 - bl p by omega]
      rw [this, Nat.mul_div_cancel _ (Nat.two_pow_pos _)]
end Go.Proofs.Ytconefdllomgbaa.FDouble
