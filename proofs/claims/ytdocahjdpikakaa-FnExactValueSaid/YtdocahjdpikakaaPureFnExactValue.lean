/- laws.FnExactValue: the program's Value returns what the reference's Value returns, for every scale and int. No condition. -/
import Derived.Test.YtdocahjdpikakaaPFnExactValuex1
import Derived.Test.YtdocahjdpikakaaAid
namespace Go.Proofs.Ytdocahjdpikakaa.Pure
open Go.RowKit Go.Proofs.Ytdocahjdpikakaa.PFnExactValue Go.Proofs.YtdocahjdpikakaaW.PrintWords Go.Proofs.YtdocahjdpikakaaW.PrintLast Go.Proofs.Ytdocahjdpikakaa.Aid
set_option linter.unusedVariables false
set_option linter.unusedSimpArgs false
def inB (a b c : Int) : Bool := decide (b ≤ a) && decide (a ≤ c)
theorem inB_iff (a b c : Int) : inB a b c = true ↔ b ≤ a ∧ a ≤ c := by unfold inB; simp
theorem inB_not (a b c : Int) : inB a b c = false ↔ ¬ (b ≤ a ∧ a ≤ c) := by rw [← inB_iff]; simp
theorem in_body (a b c : Int) : (if a ≥ b then (some (decide (a ≤ c))) else (some false)) = some (inB a b c) := by
  unfold inB
  by_cases h : b ≤ a
  · rw [if_pos h]; simp [h]
  · rw [if_neg h]; simp [h]
theorem ite_and (b c : Bool) : (if b = true then some c else some false) = some (b && c) := by cases b <;> rfl
theorem ite_same {α : Type} (b : Bool) (x : α) : (if b = true then x else x) = x := by cases b <;> rfl
theorem sIn (a b c : Int) : spec_l5In.f a b c = some (inB a b c) := in_body a b c
theorem iIn (a b c : Int) : impl_within.f a b c = some (inB a b c) := in_body a b c
def scaleB (a b : Int) : Bool := inB a 1 1099511627776 && inB b 0 255
theorem scale_bd {a b : Int} (h : scaleB a b = true) : 1 ≤ a ∧ a ≤ 1099511627776 ∧ 0 ≤ b ∧ b ≤ 255 := by
  unfold scaleB at h
  rw [Bool.and_eq_true, inB_iff, inB_iff] at h
  omega
theorem sScale (a b : Int) : spec_ScaleOk.f a b = some (scaleB a b) := by
  unfold spec_ScaleOk.f scaleB
  rw [sIn, sIn]; simp only [Option.bind_some]; exact ite_and _ _
theorem iByte (a : Int) : impl_isByte.f a = some (inB a 0 255) := by
  unfold impl_isByte.f; rw [iIn]; rfl
theorem iScale (a b : Int) : impl_ScaleOk.f a b = some (scaleB a b) := by
  unfold impl_ScaleOk.f scaleB
  rw [iIn, iByte]; simp only [Option.bind_some]; exact ite_and _ _
theorem FnExactValue (a0 a1 a2 : Int) (_ : (Lit.int .i64 a0).wf = true) (_ : (Lit.int .i64 a1).wf = true) (_ : (Lit.int .i64 a2).wf = true) : laws_FnExactValue.f a0 a1 a2 = some true := by
  have e : spec_Value.f a0 a1 a2 = impl_Value.f a0 a1 a2 := by
    unfold spec_Value.f impl_Value.f
    rw [sScale, iScale, sIn, iByte]
  have s : ∃ r, impl_Value.f a0 a1 a2 = some r := by
    unfold impl_Value.f
    rw [iScale, iByte]; simp only [Option.bind_some]
    split
    · split <;> exact ⟨_, rfl⟩
    · exact ⟨_, rfl⟩
  obtain ⟨r, hr⟩ := s
  unfold laws_FnExactValue.f laws_toScale.f
  simp only [Option.bind_some]
  rw [e, hr]; simp

end Go.Proofs.Ytdocahjdpikakaa.Pure
