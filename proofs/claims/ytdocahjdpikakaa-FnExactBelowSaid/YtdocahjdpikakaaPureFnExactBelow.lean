/- laws.FnExactBelow: the program's Below returns what the reference's returns, for every two ints. No condition. -/
import Derived.Test.YtdocahjdpikakaaPFnExactBelowx1
import Derived.Test.YtdocahjdpikakaaAid
namespace Go.Proofs.Ytdocahjdpikakaa.Pure
open Go.RowKit Go.Proofs.Ytdocahjdpikakaa.PFnExactBelow Go.Proofs.YtdocahjdpikakaaW.PrintWords Go.Proofs.YtdocahjdpikakaaW.PrintLast Go.Proofs.Ytdocahjdpikakaa.Aid
set_option linter.unusedVariables false
set_option linter.unusedSimpArgs false
/-- The next state of the draws. -/
def nxt (a : Int) : Int := if 0 ≤ a ∧ a < 4294967296 then (1664525 * a + 1013904223) % 4294967296 else 0
theorem sNext (a : Int) : spec_NextState.f a = some (nxt a) := by
  unfold spec_NextState.f spec_l16State.f nxt
  by_cases h0 : 0 ≤ a
  · rw [if_pos h0]; simp only [Option.bind_some]
    by_cases h1 : a < 4294967296
    · rw [if_pos (by simpa using h1), if_pos ⟨h0, h1⟩, wid (x := 1664525 * a) (by omega) (by omega), wid (by omega) (by omega), and_mask]
    · rw [if_neg (by simpa using h1), if_neg (by omega)]
  · rw [if_neg h0, if_neg (by omega)]; rfl
theorem iNext (a : Int) : impl_NextState.f a = some (nxt a) := by
  unfold impl_NextState.f impl_isState.f nxt
  by_cases h0 : 0 ≤ a
  · rw [if_pos h0]; simp only [Option.bind_some]
    by_cases h1 : a < 4294967296
    · rw [if_pos (by simpa using h1), if_pos ⟨h0, h1⟩, wid (x := 1664525 * a) (by omega) (by omega), wid (by omega) (by omega), tmod_nn (by omega)]
    · rw [if_neg (by simpa using h1), if_neg (by omega)]
  · rw [if_neg h0, if_neg (by omega)]; rfl
def inB (a b c : Int) : Bool := decide (b ≤ a) && decide (a ≤ c)
theorem inB_iff (a b c : Int) : inB a b c = true ↔ b ≤ a ∧ a ≤ c := by unfold inB; simp
theorem inB_not (a b c : Int) : inB a b c = false ↔ ¬ (b ≤ a ∧ a ≤ c) := by rw [← inB_iff]; simp
theorem in_body (a b c : Int) : (if a ≥ b then (some (decide (a ≤ c))) else (some false)) = some (inB a b c) := by
  unfold inB
  by_cases h : b ≤ a
  · rw [if_pos h]; simp [h]
  · rw [if_neg h]; simp [h]
theorem ite_and (b c : Bool) : (if b = true then some c else some false) = some (b && c) := by cases b <;> rfl
theorem ite_same {α : Type} (b : Bool) (x : α) : (if b = true then x else x) = x := by cases b <;> rfl
theorem sIn (a b c : Int) : spec_l5In.f a b c = some (inB a b c) := in_body a b c
theorem iIn (a b c : Int) : impl_within.f a b c = some (inB a b c) := in_body a b c
def stB (a : Int) : Bool := decide (0 ≤ a) && decide (a < 4294967296)
theorem stB_iff (a : Int) : stB a = true ↔ 0 ≤ a ∧ a < 4294967296 := by unfold stB; simp
theorem st_body (a : Int) : (if a ≥ 0 then (some (decide (a < 4294967296))) else (some false)) = some (stB a) := by
  unfold stB
  by_cases h : 0 ≤ a
  · rw [if_pos h]; simp [h]
  · rw [if_neg h]; simp [h]
theorem sSt (a : Int) : spec_l16State.f a = some (stB a) := st_body a
theorem iSt (a : Int) : impl_isState.f a = some (stB a) := st_body a
/-- A draw below n: the number and the next state. -/
def belowI (s n : Int) : Int × Int := if stB s && inB n 1 2147483648 then (nxt s * n / 4294967296, nxt s) else (0, s)
theorem nxt_bd (s : Int) : 0 ≤ nxt s ∧ nxt s < 4294967296 := by unfold nxt; split <;> omega
theorem below_bd {s n : Int} (h : inB n 1 2147483648 = true) : 0 ≤ nxt s * n ∧ nxt s * n ≤ 9223372036854775807 := by
  have h := (inB_iff _ _ _).1 h
  have b := nxt_bd s
  refine ⟨Int.mul_nonneg b.1 (by omega), ?_⟩
  have := Int.mul_le_mul (show nxt s ≤ 4294967295 by omega) h.2 (by omega) (by omega)
  omega
theorem sBelow (s n : Int) : spec_Below.f s n = some (belowI s n) := by
  unfold spec_Below.f belowI
  rw [sSt, sIn, sNext]; simp only [Option.bind_some]
  cases h1 : stB s <;> cases h2 : inB n 1 2147483648
  · rfl
  · rfl
  · rfl
  · have b := below_bd (s := s) h2
    rw [wid (by omega) b.2]; rfl
theorem iBelow (s n : Int) : impl_Below.f s n = some (belowI s n) := by
  unfold impl_Below.f belowI
  rw [iSt, iIn, iNext]; simp only [Option.bind_some]
  cases h1 : stB s <;> cases h2 : inB n 1 2147483648
  · rfl
  · rfl
  · rfl
  · have b := below_bd (s := s) h2
    rw [wid (by omega) b.2]; rfl
theorem FnExactBelow : laws_FnExactBelow.Pure := by
  intro a b _ _
  unfold laws_FnExactBelow.f
  rw [sBelow, iBelow]; simp

end Go.Proofs.Ytdocahjdpikakaa.Pure
