/- laws.FnExactOfFrac: the program's OfFrac returns what the reference's returns, for every fraction. No condition. -/
import Derived.Test.YtofhdamomchbgaaPFnExactOfFracx2
import Derived.Test.YtofhdamomchbgaaAid
namespace Go.Proofs.Ytofhdamomchbgaa.Pure
open Go.RowKit Go.Proofs.Ytofhdamomchbgaa.PFnExactOfFrac Go.Proofs.YtofhdamomchbgaaW.PrintWords Go.Proofs.YtofhdamomchbgaaW.PrintLast Go.Proofs.YtofhdamomchbgaaW.PrintMore Go.Proofs.Ytofhdamomchbgaa.Aid
set_option linter.unusedVariables false
set_option linter.unusedSimpArgs false
theorem mod_eq (a : Int) : (if (Int.tmod a 2147483647) < 0 then (some (wrap64 ((Int.tmod a 2147483647) + 2147483647))) else (some (Int.tmod a 2147483647))) = some (a % 2147483647) := by
  have h := tmod_fix a 2147483647 (by decide)
  have hb := tmod_bd a 2147483647 (by decide)
  by_cases c : Int.tmod a 2147483647 < 0
  · rw [if_pos c] at h ⊢; rw [wid (by omega) (by omega), h]
  · rw [if_neg c] at h ⊢; rw [h]
theorem sMod (a : Int) : spec_Mod.f a = some (a % 2147483647) := mod_eq a
theorem iMod (a : Int) : impl_Mod.f a = some (a % 2147483647) := mod_eq a
theorem m_lo (a : Int) : 0 ≤ a % 2147483647 := Int.emod_nonneg a (by decide)
theorem m_hi (a : Int) : a % 2147483647 < 2147483647 := Int.emod_lt_of_pos a (by decide)
theorem iRes (a : Int) : impl_res.f a = some (a % 2147483647) := by
  unfold impl_res.f; rw [iMod]; rfl
theorem prod_bd {a b : Int} (ha : 0 ≤ a) (ha' : a < 2147483647) (hb : 0 ≤ b) (hb' : b < 2147483647) : 0 ≤ a * b ∧ a * b ≤ 4611686009837453316 := by
  refine ⟨Int.mul_nonneg ha hb, ?_⟩
  have := Int.mul_le_mul (show a ≤ 2147483646 by omega) (show b ≤ 2147483646 by omega) hb (by decide)
  omega
theorem rTimes (a b : Int) (ha : 0 ≤ a) (ha' : a < 2147483647) (hb : 0 ≤ b) (hb' : b < 2147483647) : impl_residue_times.f a b = some (a * b % 2147483647) := by
  have h := prod_bd ha ha' hb hb'
  unfold impl_residue_times.f
  rw [wid (by omega) (by omega), tmod_nn h.1]
theorem sTimes (a b : Int) : spec_Times.f a b = some (a % 2147483647 * (b % 2147483647) % 2147483647) := by
  have h := prod_bd (m_lo a) (m_hi a) (m_lo b) (m_hi b)
  unfold spec_Times.f
  rw [sMod, sMod]; simp only [Option.bind_some]
  rw [wid (by omega) (by omega), sMod]; rfl
theorem iTimes (a b : Int) : impl_Times.f a b = some (a % 2147483647 * (b % 2147483647) % 2147483647) := by
  unfold impl_Times.f
  rw [iRes, iRes]; simp only [Option.bind_some]
  rw [rTimes _ _ (m_lo a) (m_hi a) (m_lo b) (m_hi b)]; rfl
/-- The exponent of an inverse. -/
def PE : Nat := 2147483645
theorem PE_cast : ((PE : Nat) : Int) = 2147483645 := rfl
attribute [irreducible] PE
theorem mm (a b : Int) : a % 2147483647 * (b % 2147483647) % 2147483647 = a * b % 2147483647 := (Int.mul_emod a b _).symm
theorem mml (a b : Int) : a % 2147483647 * b % 2147483647 = a * b % 2147483647 := by rw [Int.mul_emod, Int.emod_emod_of_dvd _ (Int.dvd_refl _), ← Int.mul_emod]
theorem mmr (a b : Int) : a * (b % 2147483647) % 2147483647 = a * b % 2147483647 := by rw [Int.mul_emod, Int.emod_emod_of_dvd _ (Int.dvd_refl _), ← Int.mul_emod]
theorem mmod (a : Int) : a % 2147483647 % 2147483647 = a % 2147483647 := Int.emod_emod_of_dvd _ (Int.dvd_refl _)
theorem pow_half (a : Int) (n : Nat) : a ^ n = a ^ (n / 2) * a ^ (n / 2) * a ^ (n % 2) := by
  rw [← Int.pow_add, ← Int.pow_add]; congr 1; omega
theorem pow_mod (a : Int) : ∀ n : Nat, (a % 2147483647) ^ n % 2147483647 = a ^ n % 2147483647 := by
  intro n
  induction n with
  | zero => rw [Int.pow_zero, Int.pow_zero]
  | succ n ih => rw [Int.pow_succ, Int.pow_succ, Int.mul_emod, ih, mmod, mm]
def invI (a : Int) : Int := (a % 2147483647) ^ PE % 2147483647
theorem sRaise (a : Int) (d : Nat) : ∀ (k : Nat) (n : Nat), n < 2 ^ d → n < 9223372036854775807 → d < k → spec_l1Raise.f k a n = some (if n = 0 then 1 else a ^ n % 2147483647) := by
  induction d with
  | zero =>
    intro k n h _ hk
    obtain ⟨k, rfl⟩ : ∃ m, k = m + 1 := ⟨k - 1, by omega⟩
    have e : n = 0 := by have : (2 : Nat) ^ 0 = 1 := rfl
                         omega
    subst e; rfl
  | succ d ih =>
    intro k n h h' hk
    obtain ⟨k, rfl⟩ : ∃ m, k = m + 1 := ⟨k - 1, by omega⟩
    simp only [spec_l1Raise.f]
    by_cases h0 : n = 0
    · subst h0; rfl
    · rw [if_neg (show ¬ (n : Int) = 0 by omega), if_neg h0]
      have hp : 2 ^ (d + 1) = 2 * 2 ^ d := by rw [Nat.pow_succ]; omega
      have e1 : Int.tdiv (n : Int) 2 = ((n / 2 : Nat) : Int) := by rw [tdiv_nn (by omega)]; omega
      have e2 : Int.tmod (n : Int) 2 = ((n % 2 : Nat) : Int) := by rw [tmod_nn (by omega)]; omega
      rw [e1, e2, wid (by omega) (by omega), ih k (n / 2) (by omega) (by omega) (by omega)]
      simp only [Option.bind_some, sTimes, mm]
      have hh := pow_half a n
      have t : (if n / 2 = 0 then (1 : Int) else a ^ (n / 2) % 2147483647) * (if n / 2 = 0 then (1 : Int) else a ^ (n / 2) % 2147483647) % 2147483647 = a ^ (n / 2) * a ^ (n / 2) % 2147483647 := by
        by_cases c : n / 2 = 0
        · rw [if_pos c, c, Int.pow_zero]
        · rw [if_neg c, mm]
      rw [t, mml]
      rcases Nat.mod_two_eq_zero_or_one n with m | m
      · rw [m, if_neg (by decide), hh, m, Int.pow_zero, Int.mul_one]
      · rw [m, if_pos (by decide), hh, m, Int.pow_one]
theorem sRaise' (a : Int) (k : Nat) (n : Nat) (h : n ≤ 2147483645) (hk : 31 < k) : spec_l1Raise.f k a n = some (a ^ n % 2147483647) := by
  rw [sRaise a 31 k n (by have : (2 : Nat) ^ 31 = 2147483648 := by decide
                          omega) (by omega) hk]
  by_cases c : n = 0
  · subst c; rw [if_pos rfl, Int.pow_zero]; rfl
  · rw [if_neg c]
theorem sInv (k : Nat) (hk : 31 < k) (a : Int) : spec_Inverse.f k a = some (invI a) := by
  unfold spec_Inverse.f invI
  rw [sMod]; simp only [Option.bind_some]
  rw [← PE_cast, sRaise' _ k PE (by have := PE_cast; omega) hk]; rfl
theorem iPowLoop (d : Nat) : ∀ (k : Nat) (r : Int) (n : Nat) (out : Int), 0 ≤ r → r < 2147483647 → 0 ≤ out → out < 2147483647 → n < 2 ^ d → n < 9223372036854775807 → d < k → impl_residue_power.l0 k r n out = some (out * r ^ n % 2147483647) := by
  induction d with
  | zero =>
    intro k r n out r0 r1 o0 o1 h _ hk
    obtain ⟨k, rfl⟩ : ∃ m, k = m + 1 := ⟨k - 1, by omega⟩
    have e : n = 0 := by have : (2 : Nat) ^ 0 = 1 := rfl
                         omega
    subst e
    simp only [impl_residue_power.l0]
    rw [if_neg (by decide), Int.pow_zero, Int.mul_one, Int.emod_eq_of_lt o0 o1]
  | succ d ih =>
    intro k r n out r0 r1 o0 o1 h h' hk
    obtain ⟨k, rfl⟩ : ∃ m, k = m + 1 := ⟨k - 1, by omega⟩
    simp only [impl_residue_power.l0]
    by_cases c : n = 0
    · subst c
      rw [if_neg (by decide), Int.pow_zero, Int.mul_one, Int.emod_eq_of_lt o0 o1]
    · have hp : 2 ^ (d + 1) = 2 * 2 ^ d := by rw [Nat.pow_succ]; omega
      have e1 : (n : Int) / 2 = ((n / 2 : Nat) : Int) := by omega
      have e2 : (n : Int) % 2 = ((n % 2 : Nat) : Int) := by omega
      rw [if_pos (by omega), and_one, e1, e2, rTimes _ _ r0 r1 r0 r1, rTimes _ _ o0 o1 r0 r1]
      simp only [Option.bind_some]
      have sq : (r * r % 2147483647) ^ (n / 2) % 2147483647 = r ^ (n / 2) * r ^ (n / 2) % 2147483647 := by rw [pow_mod, Int.mul_pow]
      have hh := pow_half r n
      rcases Nat.mod_two_eq_zero_or_one n with m | m
      · rw [m, if_neg (by decide), ih k _ _ _ (m_lo _) (m_hi _) o0 o1 (by omega) (by omega) (by omega), ← mmr, sq, hh, m, Int.pow_zero, Int.mul_one, mmr]
      · rw [m, if_pos (by decide), ih k _ _ _ (m_lo _) (m_hi _) (m_lo _) (m_hi _) (by omega) (by omega) (by omega), mml, ← mmr, sq, mmr, hh, m, Int.pow_one]
        congr 2
        rw [Int.mul_assoc, Int.mul_comm r, Int.mul_assoc]
theorem iPow (k : Nat) (r : Int) (n : Nat) (r0 : 0 ≤ r) (r1 : r < 2147483647) (h : n ≤ 2147483645) (hk : 31 < k) : impl_residue_power.f k r n = some (r ^ n % 2147483647) := by
  unfold impl_residue_power.f
  rw [iPowLoop 31 k r n 1 r0 r1 (by decide) (by decide) (by have : (2 : Nat) ^ 31 = 2147483648 := by decide
                                                            omega) (by omega) hk, Int.one_mul]
theorem iInv (k : Nat) (hk : 31 < k) (a : Int) : impl_Inverse.f k a = some (invI a) := by
  unfold impl_Inverse.f invI
  rw [iRes]; simp only [Option.bind_some]
  rw [← PE_cast, iPow k _ PE (m_lo a) (m_hi a) (by have := PE_cast; omega) hk]; rfl
def overI (a b : Int) : Int := a * invI b % 2147483647
theorem sOver (k : Nat) (hk : 31 < k) (a b : Int) : spec_Over.f k a b = some (overI a b) := by
  unfold spec_Over.f overI
  rw [sInv k hk]; simp only [Option.bind_some, sTimes, mm]
theorem iOver (k : Nat) (hk : 31 < k) (a b : Int) : impl_Over.f k a b = some (overI a b) := by
  unfold impl_Over.f overI
  rw [iInv k hk]; simp only [Option.bind_some, iTimes, mm]
def inB (a b c : Int) : Bool := decide (b ≤ a) && decide (a ≤ c)
theorem inB_iff (a b c : Int) : inB a b c = true ↔ b ≤ a ∧ a ≤ c := by unfold inB; simp
theorem inB_not (a b c : Int) : inB a b c = false ↔ ¬ (b ≤ a ∧ a ≤ c) := by rw [← inB_iff]; simp
theorem in_body (a b c : Int) : (if a ≥ b then (some (decide (a ≤ c))) else (some false)) = some (inB a b c) := by
  unfold inB
  by_cases h : b ≤ a
  · rw [if_pos h]; simp [h]
  · rw [if_neg h]; simp [h]
theorem ite_and (b c : Bool) : (if b = true then some c else some false) = some (b && c) := by cases b <;> rfl
theorem ite_same {α : Type} (b : Bool) (x : α) : (if b = true then x else x) = x := by cases b <;> rfl
theorem gcd_step (a b : Nat) : Nat.gcd b (a % b) = Nat.gcd a b := by
  rw [Nat.gcd_comm b, ← Nat.gcd_rec, Nat.gcd_comm]
theorem sCommon : ∀ (k a b : Nat), b < k → spec_l1Common.f k a b = some ((Nat.gcd a b : Nat) : Int) := by
  intro k
  induction k with
  | zero => intro a b h; omega
  | succ k ih =>
    intro a b h
    simp only [spec_l1Common.f]
    by_cases c : b = 0
    · subst c; simp
    · have e : Int.tmod (a : Int) (b : Int) = ((a % b : Nat) : Int) := by rw [tmod_nn (by omega)]; simp
      have l := Nat.mod_lt a (show 0 < b by omega)
      rw [if_neg (by omega), e, ih b (a % b) (by omega), gcd_step]; rfl
theorem iGcdLoop : ∀ (k : Nat) (x y : Int), -32767 ≤ x → x ≤ 32767 → y.natAbs < k → -32767 ≤ y → y ≤ 32767 → impl_gcd.l0 k x y = some ((Nat.gcd x.natAbs y.natAbs : Nat) : Int) := by
  intro k
  induction k with
  | zero => intro x y _ _ h; omega
  | succ k ih =>
    intro x y x0 x1 h y0 y1
    simp only [impl_gcd.l0]
    by_cases c : y = 0
    · subst c
      rw [if_pos rfl, wid (by omega) (by omega)]
      congr 1
      simp only [Int.natAbs_zero, Nat.gcd_zero_right]
      unfold mx
      split <;> omega
    · have e : (Int.tmod x y).natAbs = x.natAbs % y.natAbs := Int.natAbs_tmod x y
      have l := Nat.mod_lt x.natAbs (show 0 < y.natAbs by omega)
      rw [if_neg c, ih y _ y0 y1 (by omega) (by omega) (by omega), e, gcd_step]
def fracB (n d : Int) : Bool := inB d 1 32767 && (inB n (-32767) 32767 && (((Nat.gcd n.natAbs d.natAbs : Nat) : Int) == 1))
theorem sFrac (k : Nat) (hk : 40000 ≤ k) (n d : Int) : spec_FracOk.f (k + 1) n d = some (fracB n d) := by
  unfold spec_FracOk.f fracB inB
  by_cases h1 : d < 1
  · rw [if_pos h1]; simp only [spec_FracOk.j0]; simp [show ¬ 1 ≤ d by omega]
  · rw [if_neg h1]
    by_cases h2 : d > 32767
    · rw [if_pos h2]; simp only [spec_FracOk.j0]; simp [show ¬ d ≤ 32767 by omega]
    · rw [if_neg h2]
      by_cases h3 : n < -32767
      · rw [if_pos h3]; simp only [spec_FracOk.j0]; simp [show ¬ -32767 ≤ n by omega]
      · rw [if_neg h3]
        simp only [spec_FracOk.j0]
        by_cases h4 : n > 32767
        · simp [h4, show ¬ n ≤ 32767 by omega]
        · rw [if_neg (by simpa using h4)]
          have ea : spec_l1Abs.f n = some (n.natAbs : Int) := by
            unfold spec_l1Abs.f
            by_cases g : n < 0
            · rw [if_pos g, wid (by omega) (by omega)]; congr 1; omega
            · rw [if_neg g]; congr 1; omega
          have ed : d = (d.natAbs : Int) := by omega
          rw [ea]; simp only [Option.bind_some]
          rw [ed, sCommon k n.natAbs d.natAbs (by omega)]
          simp [show 1 ≤ d by omega, show d ≤ 32767 by omega, show -32767 ≤ n by omega, show n ≤ 32767 by omega]
          omega
theorem iFrac (k : Nat) (hk : 40000 ≤ k) (n d : Int) : impl_FracOk.f k n d = some (fracB n d) := by
  unfold impl_FracOk.f fracB inB
  by_cases h1 : d ≥ 1
  · rw [if_pos h1]
    by_cases h2 : d ≤ 32767
    · rw [if_pos h2]
      by_cases h3 : n ≥ -32767
      · rw [if_pos h3]
        by_cases h4 : n ≤ 32767
        · rw [if_pos h4]
          unfold impl_gcd.f
          rw [iGcdLoop k n d h3 h4 (by omega) (by omega) h2]
          simp [h1, h2, h3, h4]
        · rw [if_neg h4]; simp [h4]
      · rw [if_neg h3]; simp [show ¬ -32767 ≤ n by omega]
    · rw [if_neg h2]; simp [h2]
  · rw [if_neg h1]; simp [show ¬ 1 ≤ d by omega]
theorem FnExactOfFrac (a0 a1 : Int) (_ : (Lit.int .i64 a0).wf = true) (_ : (Lit.int .i64 a1).wf = true) : ∃ k, laws_FnExactOfFrac.f k a0 a1 = some true := by
  refine ⟨40001, ?_⟩
  unfold laws_FnExactOfFrac.f laws_toFrac.f spec_OfFrac.f impl_OfFrac.f
  simp only [Option.bind_some]
  rw [sFrac 40000 (by decide), iFrac 40001 (by decide), sOver 40001 (by decide), iOver 40001 (by decide)]
  simp only [Option.bind_some]
  split <;> simp

end Go.Proofs.Ytofhdamomchbgaa.Pure
