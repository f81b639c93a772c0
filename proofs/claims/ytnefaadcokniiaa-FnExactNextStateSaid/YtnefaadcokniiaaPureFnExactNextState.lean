/- laws.FnExactNextState: the program's NextState returns what the reference's NextState returns, for every int. No condition. -/
import Derived.Test.YtnefaadcokniiaaPFnExactNextStatex1
import Derived.Test.YtnefaadcokniiaaAid
namespace Go.Proofs.Ytnefaadcokniiaa.Pure
open Go.RowKit Go.Proofs.Ytnefaadcokniiaa.PFnExactNextState Go.Proofs.YtnefaadcokniiaaW.PrintWords Go.Proofs.YtnefaadcokniiaaW.PrintLast Go.Proofs.Ytnefaadcokniiaa.Aid
/-- The next state of the draws. -/
def nxt (a : Int) : Int := if 0 ≤ a ∧ a < 4294967296 then (1664525 * a + 1013904223) % 4294967296 else 0
theorem sNext (a : Int) : spec_NextState.f a = some (nxt a) := by
  unfold spec_NextState.f spec_l16State.f nxt
  by_cases h0 : 0 ≤ a
  · rw [if_pos h0]; simp only [Option.bind_some]
    by_cases h1 : a < 4294967296
    · rw [if_pos (by simpa using h1), if_pos ⟨h0, h1⟩, wid (x := 1664525 * a) (by omega) (by omega), wid (by omega) (by omega), and_mask]
    · rw [if_neg (by simpa using h1), if_neg (by omega)]
  · rw [if_neg h0, if_neg (by omega)]; rfl
theorem iNext (a : Int) : impl_NextState.f a = some (nxt a) := by
  unfold impl_NextState.f impl_isState.f nxt
  by_cases h0 : 0 ≤ a
  · rw [if_pos h0]; simp only [Option.bind_some]
    by_cases h1 : a < 4294967296
    · rw [if_pos (by simpa using h1), if_pos ⟨h0, h1⟩, wid (x := 1664525 * a) (by omega) (by omega), wid (by omega) (by omega), tmod_nn (by omega)]
    · rw [if_neg (by simpa using h1), if_neg (by omega)]
  · rw [if_neg h0, if_neg (by omega)]; rfl
theorem FnExactNextState : laws_FnExactNextState.Pure := by
  intro a _
  unfold laws_FnExactNextState.f
  rw [sNext, iNext]; simp

end Go.Proofs.Ytnefaadcokniiaa.Pure
