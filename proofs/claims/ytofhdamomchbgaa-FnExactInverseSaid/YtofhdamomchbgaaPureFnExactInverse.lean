/- laws.FnExactInverse: the program's Inverse returns what the reference's returns, for every int. No condition. -/
import Derived.Test.YtofhdamomchbgaaPFnExactInversex1
import Derived.Test.YtofhdamomchbgaaAid
namespace Go.Proofs.Ytofhdamomchbgaa.Pure
open Go.RowKit Go.Proofs.Ytofhdamomchbgaa.PFnExactInverse Go.Proofs.YtofhdamomchbgaaW.PrintWords Go.Proofs.YtofhdamomchbgaaW.PrintLast Go.Proofs.YtofhdamomchbgaaW.PrintMore Go.Proofs.Ytofhdamomchbgaa.Aid
set_option linter.unusedVariables false
set_option linter.unusedSimpArgs false
theorem mod_eq (a : Int) : (if (Int.tmod a 2147483647) < 0 then (some (wrap64 ((Int.tmod a 2147483647) + 2147483647))) else (some (Int.tmod a 2147483647))) = some (a % 2147483647) := by
  have h := tmod_fix a 2147483647 (by decide)
  have hb := tmod_bd a 2147483647 (by decide)
  by_cases c : Int.tmod a 2147483647 < 0
  · rw [if_pos c] at h ⊢; rw [wid (by omega) (by omega), h]
  · rw [if_neg c] at h ⊢; rw [h]
theorem sMod (a : Int) : spec_Mod.f a = some (a % 2147483647) := mod_eq a
theorem iMod (a : Int) : impl_Mod.f a = some (a % 2147483647) := mod_eq a
theorem m_lo (a : Int) : 0 ≤ a % 2147483647 := Int.emod_nonneg a (by decide)
theorem m_hi (a : Int) : a % 2147483647 < 2147483647 := Int.emod_lt_of_pos a (by decide)
theorem iRes (a : Int) : impl_res.f a = some (a % 2147483647) := by
  unfold impl_res.f; rw [iMod]; rfl
theorem prod_bd {a b : Int} (ha : 0 ≤ a) (ha' : a < 2147483647) (hb : 0 ≤ b) (hb' : b < 2147483647) : 0 ≤ a * b ∧ a * b ≤ 4611686009837453316 := by
  refine ⟨Int.mul_nonneg ha hb, ?_⟩
  have := Int.mul_le_mul (show a ≤ 2147483646 by omega) (show b ≤ 2147483646 by omega) hb (by decide)
  omega
theorem rTimes (a b : Int) (ha : 0 ≤ a) (ha' : a < 2147483647) (hb : 0 ≤ b) (hb' : b < 2147483647) : impl_residue_times.f a b = some (a * b % 2147483647) := by
  have h := prod_bd ha ha' hb hb'
  unfold impl_residue_times.f
  rw [wid (by omega) (by omega), tmod_nn h.1]
theorem sTimes (a b : Int) : spec_Times.f a b = some (a % 2147483647 * (b % 2147483647) % 2147483647) := by
  have h := prod_bd (m_lo a) (m_hi a) (m_lo b) (m_hi b)
  unfold spec_Times.f
  rw [sMod, sMod]; simp only [Option.bind_some]
  rw [wid (by omega) (by omega), sMod]; rfl
/-- The exponent of an inverse. -/
def PE : Nat := 2147483645
theorem PE_cast : ((PE : Nat) : Int) = 2147483645 := rfl
attribute [irreducible] PE
theorem mm (a b : Int) : a % 2147483647 * (b % 2147483647) % 2147483647 = a * b % 2147483647 := (Int.mul_emod a b _).symm
theorem mml (a b : Int) : a % 2147483647 * b % 2147483647 = a * b % 2147483647 := by rw [Int.mul_emod, Int.emod_emod_of_dvd _ (Int.dvd_refl _), ← Int.mul_emod]
theorem mmr (a b : Int) : a * (b % 2147483647) % 2147483647 = a * b % 2147483647 := by rw [Int.mul_emod, Int.emod_emod_of_dvd _ (Int.dvd_refl _), ← Int.mul_emod]
theorem mmod (a : Int) : a % 2147483647 % 2147483647 = a % 2147483647 := Int.emod_emod_of_dvd _ (Int.dvd_refl _)
theorem pow_half (a : Int) (n : Nat) : a ^ n = a ^ (n / 2) * a ^ (n / 2) * a ^ (n % 2) := by
  rw [← Int.pow_add, ← Int.pow_add]; congr 1; omega
theorem pow_mod (a : Int) : ∀ n : Nat, (a % 2147483647) ^ n % 2147483647 = a ^ n % 2147483647 := by
  intro n
  induction n with
  | zero => rw [Int.pow_zero, Int.pow_zero]
  | succ n ih => rw [Int.pow_succ, Int.pow_succ, Int.mul_emod, ih, mmod, mm]
def invI (a : Int) : Int := (a % 2147483647) ^ PE % 2147483647
theorem sRaise (a : Int) (d : Nat) : ∀ (k : Nat) (n : Nat), n < 2 ^ d → n < 9223372036854775807 → d < k → spec_l1Raise.f k a n = some (if n = 0 then 1 else a ^ n % 2147483647) := by
  induction d with
  | zero =>
    intro k n h _ hk
    obtain ⟨k, rfl⟩ : ∃ m, k = m + 1 := ⟨k - 1, by omega⟩
    have e : n = 0 := by have : (2 : Nat) ^ 0 = 1 := rfl
                         omega
    subst e; rfl
  | succ d ih =>
    intro k n h h' hk
    obtain ⟨k, rfl⟩ : ∃ m, k = m + 1 := ⟨k - 1, by omega⟩
    simp only [spec_l1Raise.f]
    by_cases h0 : n = 0
    · subst h0; rfl
    · rw [if_neg (show ¬ (n : Int) = 0 by omega), if_neg h0]
      have hp : 2 ^ (d + 1) = 2 * 2 ^ d := by rw [Nat.pow_succ]; omega
      have e1 : Int.tdiv (n : Int) 2 = ((n / 2 : Nat) : Int) := by rw [tdiv_nn (by omega)]; omega
      have e2 : Int.tmod (n : Int) 2 = ((n % 2 : Nat) : Int) := by rw [tmod_nn (by omega)]; omega
      rw [e1, e2, wid (by omega) (by omega), ih k (n / 2) (by omega) (by omega) (by omega)]
      simp only [Option.bind_some, sTimes, mm]
      have hh := pow_half a n
      have t : (if n / 2 = 0 then (1 : Int) else a ^ (n / 2) % 2147483647) * (if n / 2 = 0 then (1 : Int) else a ^ (n / 2) % 2147483647) % 2147483647 = a ^ (n / 2) * a ^ (n / 2) % 2147483647 := by
        by_cases c : n / 2 = 0
        · rw [if_pos c, c, Int.pow_zero]
        · rw [if_neg c, mm]
      rw [t, mml]
      rcases Nat.mod_two_eq_zero_or_one n with m | m
      · rw [m, if_neg (by decide), hh, m, Int.pow_zero, Int.mul_one]
      · rw [m, if_pos (by decide), hh, m, Int.pow_one]
theorem sRaise' (a : Int) (k : Nat) (n : Nat) (h : n ≤ 2147483645) (hk : 31 < k) : spec_l1Raise.f k a n = some (a ^ n % 2147483647) := by
  rw [sRaise a 31 k n (by have : (2 : Nat) ^ 31 = 2147483648 := by decide
                          omega) (by omega) hk]
  by_cases c : n = 0
  · subst c; rw [if_pos rfl, Int.pow_zero]; rfl
  · rw [if_neg c]
theorem sInv (k : Nat) (hk : 31 < k) (a : Int) : spec_Inverse.f k a = some (invI a) := by
  unfold spec_Inverse.f invI
  rw [sMod]; simp only [Option.bind_some]
  rw [← PE_cast, sRaise' _ k PE (by have := PE_cast; omega) hk]; rfl
theorem iPowLoop (d : Nat) : ∀ (k : Nat) (r : Int) (n : Nat) (out : Int), 0 ≤ r → r < 2147483647 → 0 ≤ out → out < 2147483647 → n < 2 ^ d → n < 9223372036854775807 → d < k → impl_residue_power.l0 k r n out = some (out * r ^ n % 2147483647) := by
  induction d with
  | zero =>
    intro k r n out r0 r1 o0 o1 h _ hk
    obtain ⟨k, rfl⟩ : ∃ m, k = m + 1 := ⟨k - 1, by omega⟩
    have e : n = 0 := by have : (2 : Nat) ^ 0 = 1 := rfl
                         omega
    subst e
    simp only [impl_residue_power.l0]
    rw [if_neg (by decide), Int.pow_zero, Int.mul_one, Int.emod_eq_of_lt o0 o1]
  | succ d ih =>
    intro k r n out r0 r1 o0 o1 h h' hk
    obtain ⟨k, rfl⟩ : ∃ m, k = m + 1 := ⟨k - 1, by omega⟩
    simp only [impl_residue_power.l0]
    by_cases c : n = 0
    · subst c
      rw [if_neg (by decide), Int.pow_zero, Int.mul_one, Int.emod_eq_of_lt o0 o1]
    · have hp : 2 ^ (d + 1) = 2 * 2 ^ d := by rw [Nat.pow_succ]; omega
      have e1 : (n : Int) / 2 = ((n / 2 : Nat) : Int) := by omega
      have e2 : (n : Int) % 2 = ((n % 2 : Nat) : Int) := by omega
      rw [if_pos (by omega), and_one, e1, e2, rTimes _ _ r0 r1 r0 r1, rTimes _ _ o0 o1 r0 r1]
      simp only [Option.bind_some]
      have sq : (r * r % 2147483647) ^ (n / 2) % 2147483647 = r ^ (n / 2) * r ^ (n / 2) % 2147483647 := by rw [pow_mod, Int.mul_pow]
      have hh := pow_half r n
      rcases Nat.mod_two_eq_zero_or_one n with m | m
      · rw [m, if_neg (by decide), ih k _ _ _ (m_lo _) (m_hi _) o0 o1 (by omega) (by omega) (by omega), ← mmr, sq, hh, m, Int.pow_zero, Int.mul_one, mmr]
      · rw [m, if_pos (by decide), ih k _ _ _ (m_lo _) (m_hi _) (m_lo _) (m_hi _) (by omega) (by omega) (by omega), mml, ← mmr, sq, mmr, hh, m, Int.pow_one]
        congr 2
        rw [Int.mul_assoc, Int.mul_comm r, Int.mul_assoc]
theorem iPow (k : Nat) (r : Int) (n : Nat) (r0 : 0 ≤ r) (r1 : r < 2147483647) (h : n ≤ 2147483645) (hk : 31 < k) : impl_residue_power.f k r n = some (r ^ n % 2147483647) := by
  unfold impl_residue_power.f
  rw [iPowLoop 31 k r n 1 r0 r1 (by decide) (by decide) (by have : (2 : Nat) ^ 31 = 2147483648 := by decide
                                                            omega) (by omega) hk, Int.one_mul]
theorem iInv (k : Nat) (hk : 31 < k) (a : Int) : impl_Inverse.f k a = some (invI a) := by
  unfold impl_Inverse.f invI
  rw [iRes]; simp only [Option.bind_some]
  rw [← PE_cast, iPow k _ PE (m_lo a) (m_hi a) (by have := PE_cast; omega) hk]; rfl
theorem FnExactInverse : laws_FnExactInverse.Pure := by
  intro a _
  refine ⟨40, ?_⟩
  unfold laws_FnExactInverse.f
  rw [sInv 40 (by decide), iInv 40 (by decide)]; simp

end Go.Proofs.Ytofhdamomchbgaa.Pure
