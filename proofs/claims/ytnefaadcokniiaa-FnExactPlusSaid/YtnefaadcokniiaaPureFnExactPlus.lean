/- laws.FnExactPlus: the program's Plus returns what the reference's Plus returns, for every two ints. No condition. -/
import Derived.Test.YtnefaadcokniiaaPFnExactPlusx1
import Derived.Test.YtnefaadcokniiaaAid
namespace Go.Proofs.Ytnefaadcokniiaa.Pure
open Go.RowKit Go.Proofs.Ytnefaadcokniiaa.PFnExactPlus Go.Proofs.YtnefaadcokniiaaW.PrintWords Go.Proofs.YtnefaadcokniiaaW.PrintLast Go.Proofs.Ytnefaadcokniiaa.Aid
theorem mod_eq (a : Int) : (if (Int.tmod a 2147483647) < 0 then (some (wrap64 ((Int.tmod a 2147483647) + 2147483647))) else (some (Int.tmod a 2147483647))) = some (a % 2147483647) := by
  have h := tmod_fix a 2147483647 (by decide)
  have hb := tmod_bd a 2147483647 (by decide)
  by_cases c : Int.tmod a 2147483647 < 0
  · rw [if_pos c] at h ⊢; rw [wid (by omega) (by omega), h]
  · rw [if_neg c] at h ⊢; rw [h]
theorem sMod (a : Int) : spec_Mod.f a = some (a % 2147483647) := mod_eq a
theorem iMod (a : Int) : impl_Mod.f a = some (a % 2147483647) := mod_eq a
theorem m_lo (a : Int) : 0 ≤ a % 2147483647 := Int.emod_nonneg a (by decide)
theorem m_hi (a : Int) : a % 2147483647 < 2147483647 := Int.emod_lt_of_pos a (by decide)
theorem iRes (a : Int) : impl_res.f a = some (a % 2147483647) := by
  unfold impl_res.f; rw [iMod]; rfl
theorem rPlus (a b : Int) (ha : 0 ≤ a) (ha' : a < 2147483647) (hb : 0 ≤ b) (hb' : b < 2147483647) : impl_residue_plus.f a b = some ((a + b) % 2147483647) := by
  unfold impl_residue_plus.f
  rw [wid (x := a + b) (by omega) (by omega)]
  by_cases c : a + b ≥ 2147483647
  · rw [if_pos c, wid (by omega) (by omega)]; congr 1; omega
  · rw [if_neg c]; congr 1; omega
theorem sPlus (a b : Int) : spec_Plus.f a b = some ((a + b) % 2147483647) := by
  have h1 := m_lo a; have h2 := m_hi a; have h3 := m_lo b; have h4 := m_hi b
  unfold spec_Plus.f
  rw [sMod, sMod]; simp only [Option.bind_some]
  rw [wid (by omega) (by omega), sMod]; simp
theorem iPlus (a b : Int) : impl_Plus.f a b = some ((a + b) % 2147483647) := by
  unfold impl_Plus.f
  rw [iRes, iRes]; simp only [Option.bind_some]
  rw [rPlus _ _ (m_lo a) (m_hi a) (m_lo b) (m_hi b)]; simp
theorem FnExactPlus : laws_FnExactPlus.Pure := by
  intro a b _ _
  unfold laws_FnExactPlus.f
  rw [sPlus, iPlus]; simp

end Go.Proofs.Ytnefaadcokniiaa.Pure
