/- laws.FnExactSigned: the program's Signed returns what the reference's Signed returns, for every int. No condition. -/
import Derived.Test.YtnefaadcokniiaaPFnExactSignedx1
import Derived.Test.YtnefaadcokniiaaAid
namespace Go.Proofs.Ytnefaadcokniiaa.Pure
open Go.RowKit Go.Proofs.Ytnefaadcokniiaa.PFnExactSigned Go.Proofs.YtnefaadcokniiaaW.PrintWords Go.Proofs.YtnefaadcokniiaaW.PrintLast Go.Proofs.Ytnefaadcokniiaa.Aid
theorem mod_eq (a : Int) : (if (Int.tmod a 2147483647) < 0 then (some (wrap64 ((Int.tmod a 2147483647) + 2147483647))) else (some (Int.tmod a 2147483647))) = some (a % 2147483647) := by
  have h := tmod_fix a 2147483647 (by decide)
  have hb := tmod_bd a 2147483647 (by decide)
  by_cases c : Int.tmod a 2147483647 < 0
  · rw [if_pos c] at h ⊢; rw [wid (by omega) (by omega), h]
  · rw [if_neg c] at h ⊢; rw [h]
theorem sMod (a : Int) : spec_Mod.f a = some (a % 2147483647) := mod_eq a
theorem iMod (a : Int) : impl_Mod.f a = some (a % 2147483647) := mod_eq a
theorem m_lo (a : Int) : 0 ≤ a % 2147483647 := Int.emod_nonneg a (by decide)
theorem m_hi (a : Int) : a % 2147483647 < 2147483647 := Int.emod_lt_of_pos a (by decide)
theorem FnExactSigned : laws_FnExactSigned.Pure := by
  intro a _
  unfold laws_FnExactSigned.f spec_Signed.f impl_Signed.f
  rw [sMod, iMod]; simp only [Option.bind_some]
  split <;> simp

end Go.Proofs.Ytnefaadcokniiaa.Pure
