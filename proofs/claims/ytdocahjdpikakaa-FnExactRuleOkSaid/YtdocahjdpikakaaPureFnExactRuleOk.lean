/- laws.FnExactRuleOk: the program's RuleOk returns what the reference's returns, for every rule. No condition. -/
import Derived.Test.YtdocahjdpikakaaPFnExactRuleOkx1
import Derived.Test.YtdocahjdpikakaaAid
namespace Go.Proofs.Ytdocahjdpikakaa.Pure
open Go.RowKit Go.Proofs.Ytdocahjdpikakaa.PFnExactRuleOk Go.Proofs.YtdocahjdpikakaaW.PrintWords Go.Proofs.YtdocahjdpikakaaW.PrintLast Go.Proofs.Ytdocahjdpikakaa.Aid
set_option linter.unusedVariables false
set_option linter.unusedSimpArgs false
def inB (a b c : Int) : Bool := decide (b ≤ a) && decide (a ≤ c)
theorem inB_iff (a b c : Int) : inB a b c = true ↔ b ≤ a ∧ a ≤ c := by unfold inB; simp
theorem inB_not (a b c : Int) : inB a b c = false ↔ ¬ (b ≤ a ∧ a ≤ c) := by rw [← inB_iff]; simp
theorem in_body (a b c : Int) : (if a ≥ b then (some (decide (a ≤ c))) else (some false)) = some (inB a b c) := by
  unfold inB
  by_cases h : b ≤ a
  · rw [if_pos h]; simp [h]
  · rw [if_neg h]; simp [h]
theorem ite_and (b c : Bool) : (if b = true then some c else some false) = some (b && c) := by cases b <;> rfl
theorem ite_same {α : Type} (b : Bool) (x : α) : (if b = true then x else x) = x := by cases b <;> rfl
theorem sIn (a b c : Int) : spec_l5In.f a b c = some (inB a b c) := in_body a b c
theorem iIn (a b c : Int) : impl_within.f a b c = some (inB a b c) := in_body a b c
def schedB (a b c d : Int) : Bool := inB a 0 16777216 && (inB b 0 a && (inB d 0 1000000 && inB c 0 d))
theorem sched_bd {a b c d : Int} (h : schedB a b c d = true) : 0 ≤ a ∧ a ≤ 16777216 ∧ 0 ≤ b ∧ b ≤ a ∧ 0 ≤ d ∧ d ≤ 1000000 ∧ 0 ≤ c ∧ c ≤ d := by
  unfold schedB at h
  simp only [Bool.and_eq_true, inB_iff] at h
  omega
theorem sSched (a b c d : Int) : spec_SchedOk.f a b c d = some (schedB a b c d) := by
  unfold spec_SchedOk.f schedB
  rw [sIn, sIn, sIn, sIn]; simp only [Option.bind_some, ite_and]
theorem iSched (a b c d : Int) : impl_SchedOk.f a b c d = some (schedB a b c d) := by
  unfold impl_SchedOk.f schedB
  rw [iIn, iIn, iIn, iIn]; simp only [Option.bind_some, ite_and]
theorem FnExactRuleOk (a0 a1 a2 a3 a4 a5 a6 a7 a8 a9 a10 : Int) (_ : (Lit.int .i64 a0).wf = true) (_ : (Lit.int .i64 a1).wf = true) (_ : (Lit.int .i64 a2).wf = true) (_ : (Lit.int .i64 a3).wf = true) (_ : (Lit.int .i64 a4).wf = true) (_ : (Lit.int .i64 a5).wf = true) (_ : (Lit.int .i64 a6).wf = true) (_ : (Lit.int .i64 a7).wf = true) (_ : (Lit.int .i64 a8).wf = true) (_ : (Lit.int .i64 a9).wf = true) (_ : (Lit.int .i64 a10).wf = true) : laws_FnExactRuleOk.f a0 a1 a2 a3 a4 a5 a6 a7 a8 a9 a10 = some true := by
  unfold laws_FnExactRuleOk.f laws_toRule.f laws_toSched.f spec_RuleOk.f impl_RuleOk.f spec_l15Part.f impl_isPart.f
  simp only [Option.bind_some, sIn, iIn, ite_and, sSched, iSched]
  simp

end Go.Proofs.Ytdocahjdpikakaa.Pure
