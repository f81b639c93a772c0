/- The program's operations of the field, as contracts in one word each, and the field's laws of them. No condition. -/
import Derived.Test.YtjgokmnhhcpkcaaPPlusx1
import Derived.Test.YtjgokmnhhcpkcaaPTimesx1
import Derived.Test.YtjgokmnhhcpkcaaPMinusx1
import Derived.Test.YtjgokmnhhcpkcaaPOverx1
import Derived.Test.YtjgokmnhhcpkcaaPPowerx1
import Derived.Test.YtjgokmnhhcpkcaaAid
import Derived.Test.YtjgokmnhhcpkcaaFermat
namespace Go.Proofs.Ytjgokmnhhcpkcaa.Ops
open Go.RowKit Go.Proofs.Ytjgokmnhhcpkcaa.Aid Go.Proofs.YtjgokmnhhcpkcaaW.PrintWords Go.Proofs.YtjgokmnhhcpkcaaW.PrintLast Go.Proofs.YtjgokmnhhcpkcaaW.PrintMore
set_option linter.unusedVariables false
set_option linter.unusedSimpArgs false
/-- The exponent of an inverse. -/
def PE : Nat := 2147483645
theorem PE_cast : ((PE : Nat) : Int) = 2147483645 := rfl
attribute [irreducible] PE
theorem mm (a b : Int) : a % 2147483647 * (b % 2147483647) % 2147483647 = a * b % 2147483647 := (Int.mul_emod a b _).symm
theorem mml (a b : Int) : a % 2147483647 * b % 2147483647 = a * b % 2147483647 := by rw [Int.mul_emod, Int.emod_emod_of_dvd _ (Int.dvd_refl _), ← Int.mul_emod]
theorem mmr (a b : Int) : a * (b % 2147483647) % 2147483647 = a * b % 2147483647 := by rw [Int.mul_emod, Int.emod_emod_of_dvd _ (Int.dvd_refl _), ← Int.mul_emod]
theorem mmod (a : Int) : a % 2147483647 % 2147483647 = a % 2147483647 := Int.emod_emod_of_dvd _ (Int.dvd_refl _)
theorem pow_half (a : Int) (n : Nat) : a ^ n = a ^ (n / 2) * a ^ (n / 2) * a ^ (n % 2) := by
  rw [← Int.pow_add, ← Int.pow_add]; congr 1; omega
theorem pow_mod (a : Int) : ∀ n : Nat, (a % 2147483647) ^ n % 2147483647 = a ^ n % 2147483647 := by
  intro n
  induction n with
  | zero => rw [Int.pow_zero, Int.pow_zero]
  | succ n ih => rw [Int.pow_succ, Int.pow_succ, Int.mul_emod, ih, mmod, mm]
def invI (a : Int) : Int := (a % 2147483647) ^ PE % 2147483647
def pl (a b : Int) : Int := (a + b) % 2147483647
def ti (a b : Int) : Int := a * b % 2147483647
def mi (a b : Int) : Int := (a - b) % 2147483647
def md (a : Int) : Int := a % 2147483647
def ov (a b : Int) : Int := a * invI b % 2147483647
namespace Plus
open Go.Proofs.Ytjgokmnhhcpkcaa.PPlus
theorem mod_eq (a : Int) : (if (Int.tmod a 2147483647) < 0 then (some (wrap64 ((Int.tmod a 2147483647) + 2147483647))) else (some (Int.tmod a 2147483647))) = some (a % 2147483647) := by
  have h := tmod_fix a 2147483647 (by decide)
  have hb := tmod_bd a 2147483647 (by decide)
  by_cases c : Int.tmod a 2147483647 < 0
  · rw [if_pos c] at h ⊢; rw [wid (by omega) (by omega), h]
  · rw [if_neg c] at h ⊢; rw [h]
theorem iMod (a : Int) : impl_Mod.f a = some (a % 2147483647) := mod_eq a
theorem m_lo (a : Int) : 0 ≤ a % 2147483647 := Int.emod_nonneg a (by decide)
theorem m_hi (a : Int) : a % 2147483647 < 2147483647 := Int.emod_lt_of_pos a (by decide)
theorem iRes (a : Int) : impl_res.f a = some (a % 2147483647) := by
  unfold impl_res.f; rw [iMod]; rfl
theorem rPlus (a b : Int) (ha : 0 ≤ a) (ha' : a < 2147483647) (hb : 0 ≤ b) (hb' : b < 2147483647) : impl_residue_plus.f a b = some ((a + b) % 2147483647) := by
  unfold impl_residue_plus.f
  rw [wid (x := a + b) (by omega) (by omega)]
  by_cases c : a + b ≥ 2147483647
  · rw [if_pos c, wid (by omega) (by omega)]; congr 1; omega
  · rw [if_neg c]; congr 1; omega
theorem iPlus (a b : Int) : impl_Plus.f a b = some ((a + b) % 2147483647) := by
  unfold impl_Plus.f
  rw [iRes, iRes]; simp only [Option.bind_some]
  rw [rPlus _ _ (m_lo a) (m_hi a) (m_lo b) (m_hi b)]; simp
theorem calls (a b : Int) (w : World) : Calls Try.prog 18 #[.int .i64 a, .int .i64 b] w fun e w' => e = .returned (.int .i64 (pl a b)) ∧ Drawn0 w w' := impl_Plus.calls a b (pl a b) w (iPlus a b)
end Plus
namespace Times
open Go.Proofs.Ytjgokmnhhcpkcaa.PTimes
theorem mod_eq (a : Int) : (if (Int.tmod a 2147483647) < 0 then (some (wrap64 ((Int.tmod a 2147483647) + 2147483647))) else (some (Int.tmod a 2147483647))) = some (a % 2147483647) := by
  have h := tmod_fix a 2147483647 (by decide)
  have hb := tmod_bd a 2147483647 (by decide)
  by_cases c : Int.tmod a 2147483647 < 0
  · rw [if_pos c] at h ⊢; rw [wid (by omega) (by omega), h]
  · rw [if_neg c] at h ⊢; rw [h]
theorem iMod (a : Int) : impl_Mod.f a = some (a % 2147483647) := mod_eq a
theorem m_lo (a : Int) : 0 ≤ a % 2147483647 := Int.emod_nonneg a (by decide)
theorem m_hi (a : Int) : a % 2147483647 < 2147483647 := Int.emod_lt_of_pos a (by decide)
theorem iRes (a : Int) : impl_res.f a = some (a % 2147483647) := by
  unfold impl_res.f; rw [iMod]; rfl
theorem prod_bd {a b : Int} (ha : 0 ≤ a) (ha' : a < 2147483647) (hb : 0 ≤ b) (hb' : b < 2147483647) : 0 ≤ a * b ∧ a * b ≤ 4611686009837453316 := by
  refine ⟨Int.mul_nonneg ha hb, ?_⟩
  have := Int.mul_le_mul (show a ≤ 2147483646 by omega) (show b ≤ 2147483646 by omega) hb (by decide)
  omega
theorem rTimes (a b : Int) (ha : 0 ≤ a) (ha' : a < 2147483647) (hb : 0 ≤ b) (hb' : b < 2147483647) : impl_residue_times.f a b = some (a * b % 2147483647) := by
  have h := prod_bd ha ha' hb hb'
  unfold impl_residue_times.f
  rw [wid (by omega) (by omega), tmod_nn h.1]
theorem iTimes (a b : Int) : impl_Times.f a b = some (a % 2147483647 * (b % 2147483647) % 2147483647) := by
  unfold impl_Times.f
  rw [iRes, iRes]; simp only [Option.bind_some]
  rw [rTimes _ _ (m_lo a) (m_hi a) (m_lo b) (m_hi b)]; rfl
theorem calls (a b : Int) (w : World) : Calls Try.prog 19 #[.int .i64 a, .int .i64 b] w fun e w' => e = .returned (.int .i64 (ti a b)) ∧ Drawn0 w w' := impl_Times.calls a b (ti a b) w (by rw [iTimes, mm]; rfl)
end Times
namespace Minus
open Go.Proofs.Ytjgokmnhhcpkcaa.PMinus
theorem mod_eq (a : Int) : (if (Int.tmod a 2147483647) < 0 then (some (wrap64 ((Int.tmod a 2147483647) + 2147483647))) else (some (Int.tmod a 2147483647))) = some (a % 2147483647) := by
  have h := tmod_fix a 2147483647 (by decide)
  have hb := tmod_bd a 2147483647 (by decide)
  by_cases c : Int.tmod a 2147483647 < 0
  · rw [if_pos c] at h ⊢; rw [wid (by omega) (by omega), h]
  · rw [if_neg c] at h ⊢; rw [h]
theorem iMod (a : Int) : impl_Mod.f a = some (a % 2147483647) := mod_eq a
theorem m_lo (a : Int) : 0 ≤ a % 2147483647 := Int.emod_nonneg a (by decide)
theorem m_hi (a : Int) : a % 2147483647 < 2147483647 := Int.emod_lt_of_pos a (by decide)
theorem iRes (a : Int) : impl_res.f a = some (a % 2147483647) := by
  unfold impl_res.f; rw [iMod]; rfl
theorem rPlus (a b : Int) (ha : 0 ≤ a) (ha' : a < 2147483647) (hb : 0 ≤ b) (hb' : b < 2147483647) : impl_residue_plus.f a b = some ((a + b) % 2147483647) := by
  unfold impl_residue_plus.f
  rw [wid (x := a + b) (by omega) (by omega)]
  by_cases c : a + b ≥ 2147483647
  · rw [if_pos c, wid (by omega) (by omega)]; congr 1; omega
  · rw [if_neg c]; congr 1; omega
theorem iMinus (a b : Int) : impl_Minus.f a b = some ((a - b) % 2147483647) := by
  have h1 := m_lo a; have h2 := m_hi a; have h3 := m_lo b; have h4 := m_hi b
  unfold impl_Minus.f
  rw [iRes, iMod]; simp only [Option.bind_some]
  rw [wid (by omega) (by omega), iRes]; simp only [Option.bind_some]
  rw [rPlus _ _ (m_lo a) (m_hi a) (m_lo _) (m_hi _)]; simp only [Option.bind_some]
  congr 1; omega
theorem calls (a b : Int) (w : World) : Calls Try.prog 20 #[.int .i64 a, .int .i64 b] w fun e w' => e = .returned (.int .i64 (mi a b)) ∧ Drawn0 w w' := impl_Minus.calls a b (mi a b) w (iMinus a b)
theorem mod_calls (a : Int) (w : World) : Calls Try.prog 21 #[.int .i64 a] w fun e w' => e = .returned (.int .i64 (md a)) ∧ Drawn0 w w' := impl_Mod.calls a (md a) w (iMod a)
end Minus
namespace Over
open Go.Proofs.Ytjgokmnhhcpkcaa.POver
theorem mod_eq (a : Int) : (if (Int.tmod a 2147483647) < 0 then (some (wrap64 ((Int.tmod a 2147483647) + 2147483647))) else (some (Int.tmod a 2147483647))) = some (a % 2147483647) := by
  have h := tmod_fix a 2147483647 (by decide)
  have hb := tmod_bd a 2147483647 (by decide)
  by_cases c : Int.tmod a 2147483647 < 0
  · rw [if_pos c] at h ⊢; rw [wid (by omega) (by omega), h]
  · rw [if_neg c] at h ⊢; rw [h]
theorem iMod (a : Int) : impl_Mod.f a = some (a % 2147483647) := mod_eq a
theorem m_lo (a : Int) : 0 ≤ a % 2147483647 := Int.emod_nonneg a (by decide)
theorem m_hi (a : Int) : a % 2147483647 < 2147483647 := Int.emod_lt_of_pos a (by decide)
theorem iRes (a : Int) : impl_res.f a = some (a % 2147483647) := by
  unfold impl_res.f; rw [iMod]; rfl
theorem prod_bd {a b : Int} (ha : 0 ≤ a) (ha' : a < 2147483647) (hb : 0 ≤ b) (hb' : b < 2147483647) : 0 ≤ a * b ∧ a * b ≤ 4611686009837453316 := by
  refine ⟨Int.mul_nonneg ha hb, ?_⟩
  have := Int.mul_le_mul (show a ≤ 2147483646 by omega) (show b ≤ 2147483646 by omega) hb (by decide)
  omega
theorem rTimes (a b : Int) (ha : 0 ≤ a) (ha' : a < 2147483647) (hb : 0 ≤ b) (hb' : b < 2147483647) : impl_residue_times.f a b = some (a * b % 2147483647) := by
  have h := prod_bd ha ha' hb hb'
  unfold impl_residue_times.f
  rw [wid (by omega) (by omega), tmod_nn h.1]
theorem iTimes (a b : Int) : impl_Times.f a b = some (a % 2147483647 * (b % 2147483647) % 2147483647) := by
  unfold impl_Times.f
  rw [iRes, iRes]; simp only [Option.bind_some]
  rw [rTimes _ _ (m_lo a) (m_hi a) (m_lo b) (m_hi b)]; rfl
theorem iPowLoop (d : Nat) : ∀ (k : Nat) (r : Int) (n : Nat) (out : Int), 0 ≤ r → r < 2147483647 → 0 ≤ out → out < 2147483647 → n < 2 ^ d → n < 9223372036854775807 → d < k → impl_residue_power.l0 k r n out = some (out * r ^ n % 2147483647) := by
  induction d with
  | zero =>
    intro k r n out r0 r1 o0 o1 h _ hk
    obtain ⟨k, rfl⟩ : ∃ m, k = m + 1 := ⟨k - 1, by omega⟩
    have e : n = 0 := by have : (2 : Nat) ^ 0 = 1 := rfl
                         omega
    subst e
    simp only [impl_residue_power.l0]
    rw [if_neg (by decide), Int.pow_zero, Int.mul_one, Int.emod_eq_of_lt o0 o1]
  | succ d ih =>
    intro k r n out r0 r1 o0 o1 h h' hk
    obtain ⟨k, rfl⟩ : ∃ m, k = m + 1 := ⟨k - 1, by omega⟩
    simp only [impl_residue_power.l0]
    by_cases c : n = 0
    · subst c
      rw [if_neg (by decide), Int.pow_zero, Int.mul_one, Int.emod_eq_of_lt o0 o1]
    · have hp : 2 ^ (d + 1) = 2 * 2 ^ d := by rw [Nat.pow_succ]; omega
      have e1 : (n : Int) / 2 = ((n / 2 : Nat) : Int) := by omega
      have e2 : (n : Int) % 2 = ((n % 2 : Nat) : Int) := by omega
      rw [if_pos (by omega), and_one, e1, e2, rTimes _ _ r0 r1 r0 r1, rTimes _ _ o0 o1 r0 r1]
      simp only [Option.bind_some]
      have sq : (r * r % 2147483647) ^ (n / 2) % 2147483647 = r ^ (n / 2) * r ^ (n / 2) % 2147483647 := by rw [pow_mod, Int.mul_pow]
      have hh := pow_half r n
      rcases Nat.mod_two_eq_zero_or_one n with m | m
      · rw [m, if_neg (by decide), ih k _ _ _ (m_lo _) (m_hi _) o0 o1 (by omega) (by omega) (by omega), ← mmr, sq, hh, m, Int.pow_zero, Int.mul_one, mmr]
      · rw [m, if_pos (by decide), ih k _ _ _ (m_lo _) (m_hi _) (m_lo _) (m_hi _) (by omega) (by omega) (by omega), mml, ← mmr, sq, mmr, hh, m, Int.pow_one]
        congr 2
        rw [Int.mul_assoc, Int.mul_comm r, Int.mul_assoc]
theorem iPow (k : Nat) (r : Int) (n : Nat) (r0 : 0 ≤ r) (r1 : r < 2147483647) (h : n ≤ 2147483645) (hk : 31 < k) : impl_residue_power.f k r n = some (r ^ n % 2147483647) := by
  unfold impl_residue_power.f
  rw [iPowLoop 31 k r n 1 r0 r1 (by decide) (by decide) (by have : (2 : Nat) ^ 31 = 2147483648 := by decide
                                                            omega) (by omega) hk, Int.one_mul]
theorem iInv (k : Nat) (hk : 31 < k) (a : Int) : impl_Inverse.f k a = some (invI a) := by
  unfold impl_Inverse.f invI
  rw [iRes]; simp only [Option.bind_some]
  rw [← PE_cast, iPow k _ PE (m_lo a) (m_hi a) (by have := PE_cast; omega) hk]; rfl
theorem iOver (a b : Int) : impl_Over.f 32 a b = some (ov a b) := by
  unfold impl_Over.f ov
  rw [iInv 32 (by decide)]; simp only [Option.bind_some, iTimes, mm]
theorem calls (a b : Int) (w : World) : Calls Try.prog 23 #[.int .i64 a, .int .i64 b] w fun e w' => e = .returned (.int .i64 (ov a b)) ∧ Drawn0 w w' := impl_Over.calls 32 a b (ov a b) w (iOver a b)
end Over
namespace Power
open Go.Proofs.Ytjgokmnhhcpkcaa.PPower
theorem mod_eq (a : Int) : (if (Int.tmod a 2147483647) < 0 then (some (wrap64 ((Int.tmod a 2147483647) + 2147483647))) else (some (Int.tmod a 2147483647))) = some (a % 2147483647) := by
  have h := tmod_fix a 2147483647 (by decide)
  have hb := tmod_bd a 2147483647 (by decide)
  by_cases c : Int.tmod a 2147483647 < 0
  · rw [if_pos c] at h ⊢; rw [wid (by omega) (by omega), h]
  · rw [if_neg c] at h ⊢; rw [h]
theorem iMod (a : Int) : impl_Mod.f a = some (a % 2147483647) := mod_eq a
theorem m_lo (a : Int) : 0 ≤ a % 2147483647 := Int.emod_nonneg a (by decide)
theorem m_hi (a : Int) : a % 2147483647 < 2147483647 := Int.emod_lt_of_pos a (by decide)
theorem iRes (a : Int) : impl_res.f a = some (a % 2147483647) := by
  unfold impl_res.f; rw [iMod]; rfl
theorem prod_bd {a b : Int} (ha : 0 ≤ a) (ha' : a < 2147483647) (hb : 0 ≤ b) (hb' : b < 2147483647) : 0 ≤ a * b ∧ a * b ≤ 4611686009837453316 := by
  refine ⟨Int.mul_nonneg ha hb, ?_⟩
  have := Int.mul_le_mul (show a ≤ 2147483646 by omega) (show b ≤ 2147483646 by omega) hb (by decide)
  omega
theorem rTimes (a b : Int) (ha : 0 ≤ a) (ha' : a < 2147483647) (hb : 0 ≤ b) (hb' : b < 2147483647) : impl_residue_times.f a b = some (a * b % 2147483647) := by
  have h := prod_bd ha ha' hb hb'
  unfold impl_residue_times.f
  rw [wid (by omega) (by omega), tmod_nn h.1]
theorem iPowLoop (d : Nat) : ∀ (k : Nat) (r : Int) (n : Nat) (out : Int), 0 ≤ r → r < 2147483647 → 0 ≤ out → out < 2147483647 → n < 2 ^ d → n < 9223372036854775807 → d < k → impl_residue_power.l0 k r n out = some (out * r ^ n % 2147483647) := by
  induction d with
  | zero =>
    intro k r n out r0 r1 o0 o1 h _ hk
    obtain ⟨k, rfl⟩ : ∃ m, k = m + 1 := ⟨k - 1, by omega⟩
    have e : n = 0 := by have : (2 : Nat) ^ 0 = 1 := rfl
                         omega
    subst e
    simp only [impl_residue_power.l0]
    rw [if_neg (by decide), Int.pow_zero, Int.mul_one, Int.emod_eq_of_lt o0 o1]
  | succ d ih =>
    intro k r n out r0 r1 o0 o1 h h' hk
    obtain ⟨k, rfl⟩ : ∃ m, k = m + 1 := ⟨k - 1, by omega⟩
    simp only [impl_residue_power.l0]
    by_cases c : n = 0
    · subst c
      rw [if_neg (by decide), Int.pow_zero, Int.mul_one, Int.emod_eq_of_lt o0 o1]
    · have hp : 2 ^ (d + 1) = 2 * 2 ^ d := by rw [Nat.pow_succ]; omega
      have e1 : (n : Int) / 2 = ((n / 2 : Nat) : Int) := by omega
      have e2 : (n : Int) % 2 = ((n % 2 : Nat) : Int) := by omega
      rw [if_pos (by omega), and_one, e1, e2, rTimes _ _ r0 r1 r0 r1, rTimes _ _ o0 o1 r0 r1]
      simp only [Option.bind_some]
      have sq : (r * r % 2147483647) ^ (n / 2) % 2147483647 = r ^ (n / 2) * r ^ (n / 2) % 2147483647 := by rw [pow_mod, Int.mul_pow]
      have hh := pow_half r n
      rcases Nat.mod_two_eq_zero_or_one n with m | m
      · rw [m, if_neg (by decide), ih k _ _ _ (m_lo _) (m_hi _) o0 o1 (by omega) (by omega) (by omega), ← mmr, sq, hh, m, Int.pow_zero, Int.mul_one, mmr]
      · rw [m, if_pos (by decide), ih k _ _ _ (m_lo _) (m_hi _) (m_lo _) (m_hi _) (by omega) (by omega) (by omega), mml, ← mmr, sq, mmr, hh, m, Int.pow_one]
        congr 2
        rw [Int.mul_assoc, Int.mul_comm r, Int.mul_assoc]
theorem iPow (k : Nat) (r : Int) (n : Nat) (r0 : 0 ≤ r) (r1 : r < 2147483647) (h : n ≤ 2147483645) (hk : 31 < k) : impl_residue_power.f k r n = some (r ^ n % 2147483647) := by
  unfold impl_residue_power.f
  rw [iPowLoop 31 k r n 1 r0 r1 (by decide) (by decide) (by have : (2 : Nat) ^ 31 = 2147483648 := by decide
                                                            omega) (by omega) hk, Int.one_mul]
theorem iInv (k : Nat) (hk : 31 < k) (a : Int) : impl_Inverse.f k a = some (invI a) := by
  unfold impl_Inverse.f invI
  rw [iRes]; simp only [Option.bind_some]
  rw [← PE_cast, iPow k _ PE (m_lo a) (m_hi a) (by have := PE_cast; omega) hk]; rfl
def powerI (a n : Int) : Int := if n < -1000000 ∨ n > 1000000 then 0 else if n < 0 then invI ((a % 2147483647) ^ (-n).toNat % 2147483647) else (a % 2147483647) ^ n.toNat % 2147483647
theorem iPower (k : Nat) (hk : 31 < k) (a n : Int) : impl_Power.f (k + 1) a n = some (powerI a n) := by
  unfold impl_Power.f powerI
  by_cases h1 : n < -1000000
  · rw [if_pos h1, if_pos (.inl h1)]; rfl
  · rw [if_neg h1]
    by_cases h2 : n > 1000000
    · rw [if_pos (.inr h2)]; simp only [impl_Power.j0]; rw [if_pos (by simpa using h2)]
    · simp only [impl_Power.j0]
      rw [if_neg (by simpa using h2), if_neg (c := n < -1000000 ∨ n > 1000000) (by omega), iRes]
      simp only [Option.bind_some]
      by_cases h3 : n < 0
      · rw [if_pos h3, if_pos h3, wid (by omega) (by omega)]
        have e : -n = ((-n).toNat : Int) := by omega
        rw [e, iPow k _ (-n).toNat (m_lo a) (m_hi a) (by omega) hk]
        simp only [Option.bind_some]
        rw [iInv k hk, Int.toNat_natCast]; rfl
      · rw [if_neg h3, if_neg h3]
        have e : n = (n.toNat : Int) := by omega
        rw [e, iPow k _ n.toNat (m_lo a) (m_hi a) (by omega) hk, Int.toNat_natCast]; rfl
theorem calls (a b : Int) (w : World) : Calls Try.prog 24 #[.int .i64 a, .int .i64 b] w fun e w' => e = .returned (.int .i64 (powerI a b)) ∧ Drawn0 w w' := impl_Power.calls 33 a b (powerI a b) w (iPower 32 (by decide) a b)
theorem PE_succ : PE + 1 = 2147483647 - 1 := by
  have := PE_cast
  omega
theorem inv_pow (c : Int) (h : c % 2147483647 ≠ 0) : (c % 2147483647) ^ PE * (c % 2147483647) % 2147483647 = 1 := by
  obtain ⟨B, hB⟩ := Int.eq_ofNat_of_zero_le (m_lo c)
  rw [hB] at h ⊢
  have hb : B % 2147483647 ≠ 0 := by
    have := m_hi c
    rw [Nat.mod_eq_of_lt (by omega)]; omega
  have f' : ∀ m : Nat, m + 1 = 2147483647 → B ^ m % 2147483647 = 1 := by
    intro m hm
    have f := Fermat.fermat Fermat.prime_m31 B hb
    rwa [show 2147483647 - 1 = m by omega] at f
  have f := f' (PE + 1) (by have := PE_succ; omega)
  rw [← Int.pow_succ]
  show (B : Int) ^ (PE + 1) % 2147483647 = 1
  have e : (((B ^ (PE + 1) % 2147483647 : Nat)) : Int) = ((1 : Nat) : Int) := congrArg _ f
  rw [Int.natCast_emod, Int.natCast_pow] at e
  exact e
theorem inv_law (c : Int) (h : c % 2147483647 ≠ 0) : invI c * c % 2147483647 = 1 := by
  unfold invI
  rw [mml, ← mmr]; exact inv_pow c h
theorem inv_mod (x : Int) : invI (x % 2147483647) = invI x := by unfold invI; rw [mmod]
theorem inv_mul (x y : Int) : invI (x * y) = invI x * invI y % 2147483647 := by
  unfold invI
  rw [mm, pow_mod, Int.mul_pow, ← mm, ← pow_mod x, ← pow_mod y, mm]
theorem inv_law_pow (c : Int) (h : c % 2147483647 ≠ 0) (m : Nat) : invI ((c % 2147483647) ^ m) * (c % 2147483647) ^ m % 2147483647 = 1 := by
  unfold invI
  rw [mml]
  have e : ((c % 2147483647) ^ m % 2147483647) ^ PE * (c % 2147483647) ^ m % 2147483647 = ((c % 2147483647) ^ PE * (c % 2147483647)) ^ m % 2147483647 := by
    rw [Int.mul_pow, ← mml, pow_mod, mml]
    congr 2
    rw [← Int.pow_mul, ← Int.pow_mul, Nat.mul_comm]
  rw [e, ← pow_mod, inv_pow c h, Int.one_pow]; rfl
theorem power_law (c n : Int) (h : c % 2147483647 ≠ 0) (h1 : -1000 ≤ n) (h2 : n ≤ 1000) : powerI c n * powerI c 3 % 2147483647 = powerI c (n + 3) := by
  have e3 : powerI c 3 = (c % 2147483647) ^ 3 % 2147483647 := by unfold powerI; rfl
  rw [e3]
  unfold powerI
  rw [if_neg (c := n < -1000000 ∨ n > 1000000) (by omega), if_neg (c := n + 3 < -1000000 ∨ n + 3 > 1000000) (by omega), mmr]
  generalize hC : c % 2147483647 = C at *
  have ip : ∀ m : Nat, invI (C ^ m) * C ^ m % 2147483647 = 1 := by
    intro m; have := inv_law_pow c (by rw [hC]; exact h) m
    rw [hC] at this; exact this
  by_cases c0 : n < 0
  · rw [if_pos c0, inv_mod]
    by_cases c1 : n + 3 < 0
    · rw [if_pos c1, inv_mod]
      have e : (-n).toNat = (-(n + 3)).toNat + 3 := by omega
      rw [e, Int.pow_add, inv_mul, mml, Int.mul_assoc, ← mmr, ip 3, Int.mul_one]
      unfold invI; rw [mmod]
    · rw [if_neg c1]
      have e : (3 : Nat) = (n + 3).toNat + (-n).toNat := by omega
      have t : invI (C ^ (-n).toNat) * C ^ 3 = C ^ (n + 3).toNat * (invI (C ^ (-n).toNat) * C ^ (-n).toNat) := by
        rw [e, Int.pow_add, Int.mul_left_comm]
      rw [t, ← mmr, ip, Int.mul_one]
  · rw [if_neg c0, if_neg (by omega), mml, ← Int.pow_add]
    congr 2; omega
end Power
def pw (a n : Int) : Int := Power.powerI a n
theorem power_calls (a b : Int) (w : World) : Calls Try.prog 24 #[.int .i64 a, .int .i64 b] w fun e w' => e = .returned (.int .i64 (pw a b)) ∧ Drawn0 w w' := Power.calls a b w
theorem pl_comm (a b : Int) : pl a b = pl b a := by unfold pl; rw [Int.add_comm]
theorem pl_assoc (a b c : Int) : pl (pl a b) c = pl a (pl b c) := by unfold pl; omega
theorem ti_comm (a b : Int) : ti a b = ti b a := by unfold ti; rw [Int.mul_comm]
theorem ti_assoc (a b c : Int) : ti (ti a b) c = ti a (ti b c) := by unfold ti; rw [mml, mmr, Int.mul_assoc]
theorem ti_pl (a b c : Int) : ti a (pl b c) = pl (ti a b) (ti a c) := by unfold ti pl; rw [mmr, Int.mul_add]; omega
theorem mi_pl (a b : Int) : mi (pl a b) b = md a := by unfold mi pl md; omega
theorem ti_ov (a b : Int) (h : md b ≠ 0) : ti (ov a b) b = md a := by
  unfold ti ov md
  rw [mml, Int.mul_assoc, ← mmr, Power.inv_law b h, Int.mul_one]
theorem ti_pw (c n : Int) (h : md c ≠ 0) (h1 : -1000 ≤ n) (h2 : n ≤ 1000) : ti (pw c n) (pw c 3) = pw c (n + 3) := Power.power_law c n h h1 h2
attribute [irreducible] pl ti mi md ov pw
end Go.Proofs.Ytjgokmnhhcpkcaa.Ops
