/- Rounding to single floats in plain Lean: what IEEE 754's nearest word comes to, and what a reckoning with a sticky bit comes to. No condition. -/
import Ieee.Arith
import Derived.Test.YtconefdllomgbaaAid
namespace Go.Proofs.Ytconefdllomgbaa.FPlain
set_option linter.unusedVariables false
set_option linter.unusedSimpArgs false

/-- n / g to the nearest whole number, ties to even; more: something lies beyond n's last bit. -/
def rneS (n g : Nat) (more : Bool) : Nat := if 2 * (n % g) > g ∨ (2 * (n % g) = g ∧ (more = true ∨ (n / g) % 2 = 1)) then n / g + 1 else n / g
theorem rneS_one (n : Nat) (more : Bool) : rneS n 1 more = n := by
  unfold rneS
  rw [Nat.mod_one, Nat.div_one, if_neg (by omega)]
/-- The sticky bit takes the last bit in. -/
theorem rneS_half (n j : Nat) (more : Bool) : rneS n (2 ^ (j + 2)) more = rneS (n / 2) (2 ^ (j + 1)) (more || n % 2 == 1) := by
  have hg : 2 ^ (j + 2) = 2 * 2 ^ (j + 1) := by rw [Nat.pow_succ]; omega
  have hg' : 2 ^ (j + 1) = 2 * 2 ^ j := by rw [Nat.pow_succ]; omega
  have hq : n / (2 * 2 ^ (j + 1)) = n / 2 / 2 ^ (j + 1) := (Nat.div_div_eq_div_mul _ _ _).symm
  have e1 := Nat.div_add_mod n (2 * 2 ^ (j + 1))
  have e2 := Nat.div_add_mod (n / 2) (2 ^ (j + 1))
  have e3 : 2 * 2 ^ (j + 1) * (n / (2 * 2 ^ (j + 1))) = 2 * (2 ^ (j + 1) * (n / 2 / 2 ^ (j + 1))) := by rw [hq, Nat.mul_assoc]
  have hr : n % (2 * 2 ^ (j + 1)) = 2 * (n / 2 % 2 ^ (j + 1)) + n % 2 := by omega
  unfold rneS
  rw [hg, hq, hr]
  generalize n / 2 / 2 ^ (j + 1) = q
  generalize n / 2 % 2 ^ (j + 1) = r
  rw [hg']
  generalize 2 ^ j = g
  have hb : n % 2 = 0 ∨ n % 2 = 1 := by omega
  congr 1
  rcases hb with b | b <;> rw [b] <;> cases more <;> simp <;> omega
/-- A multiple of both. -/
theorem rneS_mul (n g c : Nat) (hc : 0 < c) (hg : 0 < g) (more : Bool) (hm : more = false) : rneS (n * c) (g * c) more = rneS n g more := by
  subst hm
  unfold rneS
  rw [Nat.mul_div_mul_right _ _ hc, Nat.mul_mod_mul_right]
  have h1 : 2 * (n % g * c) > g * c ↔ 2 * (n % g) > g := by
    rw [← Nat.mul_assoc]; exact Nat.mul_lt_mul_right hc
  have h2 : 2 * (n % g * c) = g * c ↔ 2 * (n % g) = g := by
    rw [← Nat.mul_assoc]; exact Nat.mul_left_inj (by omega)
  simp only [h1, h2]
/-- Far below half a unit. -/
theorem rneS_small (n g : Nat) (more : Bool) (h : 2 * n < g) : rneS n g more = 0 := by
  unfold rneS
  rw [Nat.mod_eq_of_lt (by omega), Nat.div_eq_of_lt (by omega), if_neg (by omega)]
/-- A quotient with its rest told by the sticky bit rounds as the quotient itself. -/
theorem rneS_quot (a b j : Nat) (hb : 0 < b) : rneS (a / b) (2 ^ (j + 1)) (a % b != 0) = rneS a (b * 2 ^ (j + 1)) false := by
  have hg : 2 ^ (j + 1) = 2 * 2 ^ j := by rw [Nat.pow_succ]; omega
  have hq : a / (b * 2 ^ (j + 1)) = a / b / 2 ^ (j + 1) := (Nat.div_div_eq_div_mul _ _ _).symm
  have hr : a % (b * 2 ^ (j + 1)) = b * (a / b % 2 ^ (j + 1)) + a % b := by
    have e1 := Nat.div_add_mod a (b * 2 ^ (j + 1))
    have e2 := Nat.div_add_mod (a / b) (2 ^ (j + 1))
    have e3 := Nat.div_add_mod a b
    have e4 : b * 2 ^ (j + 1) * (a / (b * 2 ^ (j + 1))) = b * (2 ^ (j + 1) * (a / b / 2 ^ (j + 1))) := by rw [hq, Nat.mul_assoc]
    have e5 : b * (a / b) = b * (2 ^ (j + 1) * (a / b / 2 ^ (j + 1))) + b * (a / b % 2 ^ (j + 1)) := by rw [← Nat.mul_add, e2]
    omega
  have hl := Nat.mod_lt a hb
  unfold rneS
  rw [hq, hr]
  generalize a / b / 2 ^ (j + 1) = q
  generalize a / b % 2 ^ (j + 1) = r
  rw [hg]
  generalize 2 ^ j = g
  generalize a % b = s at *
  have t1 : b * (2 * g) = 2 * (b * g) := by rw [Nat.mul_left_comm]
  rw [t1]
  congr 1
  rw [eq_iff_iff]
  rcases Nat.lt_trichotomy r g with c | c | c
  · have m := Nat.mul_le_mul_left b (show r + 1 ≤ g by omega)
    rw [Nat.mul_add, Nat.mul_one] at m
    constructor
    · intro h; omega
    · intro h; omega
  · subst c
    by_cases z : s = 0
    · subst z; simp
    · have : (s != 0) = true := by simpa using z
      rw [this]
      constructor
      · intro _; left; omega
      · intro _; right; exact ⟨rfl, .inl rfl⟩
  · have m := Nat.mul_le_mul_left b (show g + 1 ≤ r by omega)
    rw [Nat.mul_add, Nat.mul_one] at m
    constructor
    · intro _; left; omega
    · intro _; left; omega
theorem lt_pow_log (n : Nat) : n < 2 ^ (n.log2 + 1) := Nat.lt_log2_self
/-- IEEE's cut, to the nearest and even, is that rounding. -/
theorem cut_eq (neg : Bool) (n drop : Nat) : Ieee.Toward.even.cut neg n drop = rneS n (2 ^ drop) false := by
  unfold Ieee.Toward.cut
  simp only [Nat.one_shiftLeft]
  have key : ∀ g, (n / g + (decide (g < 2 * (n % g)) || (g == 2 * (n % g) && n / g % 2 == 1)).toNat) = rneS n g false := by
    intro g
    unfold rneS
    by_cases h1 : g < 2 * (n % g)
    · rw [if_pos (.inl h1), decide_eq_true h1]; rfl
    · rw [decide_eq_false h1, Bool.false_or]
      by_cases h2 : 2 * (n % g) = g
      · by_cases h3 : n / g % 2 = 1
        · rw [if_pos (.inr ⟨h2, .inr h3⟩), h2, h3]; simp
        · rw [if_neg (by simp [h3]; omega)]
          have : (n / g % 2 == 1) = false := by simpa using h3
          rw [this, Bool.and_false]; rfl
      · rw [if_neg (by omega)]
        have : (g == 2 * (n % g)) = false := by rw [beq_eq_false_iff_ne]; omega
        rw [this, Bool.false_and]; rfl
  by_cases c : drop ≤ n.log2 + 2
  · rw [Nat.min_eq_left c]; exact key _
  · rw [Nat.min_eq_right (by omega)]
    refine (key _).trans ?_
    have h1 := lt_pow_log n
    have h2 : 2 ^ (n.log2 + 2) = 2 * 2 ^ (n.log2 + 1) := by rw [Nat.pow_succ]; omega
    have h3 : 2 ^ (n.log2 + 2) ≤ 2 ^ drop := Nat.pow_le_pow_right (by decide) (by omega)
    rw [rneS_small _ _ _ (by omega), rneS_small _ _ _ (by omega)]
/-- How many bits a number has. -/
def bl (m : Nat) : Nat := if m = 0 then 0 else m.log2 + 1
/-- The place of the last bit that is kept. -/
def lastOf (m : Nat) (e : Int) : Int := max (e + bl m - 24) (-149)
/-- What is kept of m * 2 ^ e. -/
def keptOf (m : Nat) (e : Int) (more : Bool) : Nat := rneS (m * 2 ^ (e - lastOf m e).toNat) (2 ^ (lastOf m e - e).toNat) more
/-- The rung of m * 2 ^ e, with something beyond its last bit or not. -/
def putR (m : Nat) (e : Int) (more : Bool) : Nat := if m = 0 then 0 else min ((lastOf m e + 149).toNat * 8388608 + keptOf m e more) 2139095040
def sgn (neg : Bool) : Nat := if neg then 2147483648 else 0
theorem nearest_eq (neg : Bool) (m : Nat) (e : Int) : Ieee.single.nearest neg m e = sgn neg + putR m e false := by
  have hw : ∀ r, Ieee.single.word neg r = sgn neg + r := by
    intro r; unfold Ieee.Format.word sgn
    have : Ieee.single.signWeight = 2147483648 := rfl
    rw [this]; cases neg <;> simp
  unfold Ieee.Format.nearest putR
  by_cases h : m = 0
  · rw [if_pos h, if_pos h, hw]
  · rw [if_neg h, if_neg h]
    have hl : max (e + (m.log2 : Int) - (Ieee.single.fractionBits : Int)) Ieee.single.leastPlace = lastOf m e := by
      unfold lastOf bl
      rw [if_neg h]
      have h1 : (Ieee.single.fractionBits : Int) = 23 := rfl
      have h2 : Ieee.single.leastPlace = -149 := rfl
      rw [h1, h2]; congr 1; omega
    simp only [hl]
    rw [hw, cut_eq, Nat.shiftLeft_eq]
    have h2 : Ieee.single.leastPlace = -149 := rfl
    have h3 : Ieee.single.binade = 8388608 := rfl
    have h4 : Ieee.single.infRung = 2139095040 := rfl
    rw [h2, h3, h4]
    unfold keptOf
    rw [show lastOf m e - -149 = lastOf m e + 149 by omega]
theorem bl_lt (m : Nat) : m < 2 ^ bl m := by
  unfold bl
  by_cases h : m = 0
  · rw [if_pos h, h]; decide
  · rw [if_neg h]; exact lt_pow_log m
theorem bl_le (m : Nat) (h : m ≠ 0) : 2 ^ (bl m - 1) ≤ m := by
  unfold bl
  rw [if_neg h]; exact Nat.log2_self_le h
theorem bl_pos (m : Nat) (h : m ≠ 0) : 1 ≤ bl m := by unfold bl; rw [if_neg h]; omega
theorem bl_half (m : Nat) (h : m ≠ 0) : bl m = bl (m / 2) + 1 := by
  unfold bl
  rw [if_neg h]
  by_cases c : m / 2 = 0
  · rw [if_pos c]
    have : m = 1 := by omega
    subst this; rfl
  · rw [if_neg c, Nat.log2_def m, if_pos (by omega)]
theorem bl_le_of {m j : Nat} (h : m < 2 ^ j) : bl m ≤ j := by
  rcases Nat.eq_zero_or_pos m with z | z
  · subst z; simp [bl]
  · have h1 := bl_le m (by omega)
    have h2 : 2 ^ (bl m - 1) < 2 ^ j := Nat.lt_of_le_of_lt h1 h
    have := (Nat.pow_lt_pow_iff_right (by decide : 1 < 2)).1 h2
    have := bl_pos m (by omega)
    omega
theorem lt_bl_of {m j : Nat} (h : 2 ^ j ≤ m) : j < bl m := by
  have h1 := bl_lt m
  exact (Nat.pow_lt_pow_iff_right (by decide : 1 < 2)).1 (Nat.lt_of_le_of_lt h h1)
theorem rneS_le (n g b : Nat) (more : Bool) (hg : 0 < g) (h : n < g * b) : rneS n g more ≤ b := by
  have : n / g < b := Nat.div_lt_of_lt_mul h
  unfold rneS; split <;> omega
theorem rneS_ge (n g b : Nat) (more : Bool) (hg : 0 < g) (h : g * b ≤ n) : b ≤ rneS n g more := by
  have : b ≤ n / g := (Nat.le_div_iff_mul_le hg).2 (by rw [Nat.mul_comm]; exact h)
  unfold rneS; split <;> omega
theorem kept_le (m : Nat) (e : Int) (more : Bool) : keptOf m e more ≤ 16777216 := by
  unfold keptOf
  refine rneS_le _ _ _ _ (Nat.two_pow_pos _) ?_
  have h := bl_lt m
  have e24 : 16777216 = 2 ^ 24 := by decide
  rw [e24, ← Nat.pow_add]
  have h1 : m * 2 ^ (e - lastOf m e).toNat < 2 ^ bl m * 2 ^ (e - lastOf m e).toNat := Nat.mul_lt_mul_of_pos_right h (Nat.two_pow_pos _)
  rw [← Nat.pow_add] at h1
  refine Nat.lt_of_lt_of_le h1 (Nat.pow_le_pow_right (by decide) ?_)
  unfold lastOf; omega
theorem kept_ge (m : Nat) (e : Int) (more : Bool) (hm : m ≠ 0) (hl : lastOf m e > -149) : 8388608 ≤ keptOf m e more := by
  unfold keptOf
  refine rneS_ge _ _ _ _ (Nat.two_pow_pos _) ?_
  have h := bl_le m hm
  have hp := bl_pos m hm
  have e23 : 8388608 = 2 ^ 23 := by decide
  rw [e23, ← Nat.pow_add]
  have h1 : 2 ^ (bl m - 1) * 2 ^ (e - lastOf m e).toNat ≤ m * 2 ^ (e - lastOf m e).toNat := Nat.mul_le_mul_right _ h
  rw [← Nat.pow_add] at h1
  refine Nat.le_trans (Nat.pow_le_pow_right (by decide) ?_) h1
  unfold lastOf at hl ⊢; omega
theorem putR_le (m : Nat) (e : Int) (more : Bool) : putR m e more ≤ 2139095040 := by
  unfold putR; split <;> omega
end Go.Proofs.Ytconefdllomgbaa.FPlain
