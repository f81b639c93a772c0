/- laws.FnExactTimes: the program's Times returns what the reference's Times returns, for every two ints. No condition. -/
import Derived.Test.YtnefaadcokniiaaPFnExactTimesx1
import Derived.Test.YtnefaadcokniiaaAid
namespace Go.Proofs.Ytnefaadcokniiaa.Pure
open Go.RowKit Go.Proofs.Ytnefaadcokniiaa.PFnExactTimes Go.Proofs.YtnefaadcokniiaaW.PrintWords Go.Proofs.YtnefaadcokniiaaW.PrintLast Go.Proofs.Ytnefaadcokniiaa.Aid
theorem mod_eq (a : Int) : (if (Int.tmod a 2147483647) < 0 then (some (wrap64 ((Int.tmod a 2147483647) + 2147483647))) else (some (Int.tmod a 2147483647))) = some (a % 2147483647) := by
  have h := tmod_fix a 2147483647 (by decide)
  have hb := tmod_bd a 2147483647 (by decide)
  by_cases c : Int.tmod a 2147483647 < 0
  · rw [if_pos c] at h ⊢; rw [wid (by omega) (by omega), h]
  · rw [if_neg c] at h ⊢; rw [h]
theorem sMod (a : Int) : spec_Mod.f a = some (a % 2147483647) := mod_eq a
theorem iMod (a : Int) : impl_Mod.f a = some (a % 2147483647) := mod_eq a
theorem m_lo (a : Int) : 0 ≤ a % 2147483647 := Int.emod_nonneg a (by decide)
theorem m_hi (a : Int) : a % 2147483647 < 2147483647 := Int.emod_lt_of_pos a (by decide)
theorem iRes (a : Int) : impl_res.f a = some (a % 2147483647) := by
  unfold impl_res.f; rw [iMod]; rfl
theorem prod_bd {a b : Int} (ha : 0 ≤ a) (ha' : a < 2147483647) (hb : 0 ≤ b) (hb' : b < 2147483647) : 0 ≤ a * b ∧ a * b ≤ 4611686009837453316 := by
  refine ⟨Int.mul_nonneg ha hb, ?_⟩
  have := Int.mul_le_mul (show a ≤ 2147483646 by omega) (show b ≤ 2147483646 by omega) hb (by decide)
  omega
theorem rTimes (a b : Int) (ha : 0 ≤ a) (ha' : a < 2147483647) (hb : 0 ≤ b) (hb' : b < 2147483647) : impl_residue_times.f a b = some (a * b % 2147483647) := by
  have h := prod_bd ha ha' hb hb'
  unfold impl_residue_times.f
  rw [wid (by omega) (by omega), tmod_nn h.1]
theorem sTimes (a b : Int) : spec_Times.f a b = some (a % 2147483647 * (b % 2147483647) % 2147483647) := by
  have h := prod_bd (m_lo a) (m_hi a) (m_lo b) (m_hi b)
  unfold spec_Times.f
  rw [sMod, sMod]; simp only [Option.bind_some]
  rw [wid (by omega) (by omega), sMod]; rfl
theorem iTimes (a b : Int) : impl_Times.f a b = some (a % 2147483647 * (b % 2147483647) % 2147483647) := by
  unfold impl_Times.f
  rw [iRes, iRes]; simp only [Option.bind_some]
  rw [rTimes _ _ (m_lo a) (m_hi a) (m_lo b) (m_hi b)]; rfl
theorem FnExactTimes : laws_FnExactTimes.Pure := by
  intro a b _ _
  unfold laws_FnExactTimes.f
  rw [sTimes, iTimes]; simp

end Go.Proofs.Ytnefaadcokniiaa.Pure
