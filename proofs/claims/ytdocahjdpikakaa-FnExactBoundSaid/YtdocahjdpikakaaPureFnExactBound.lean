/- laws.FnExactBound: the program's Bound returns what the reference's returns, for every three scales and three ints. No condition. -/
import Derived.Test.YtdocahjdpikakaaPFnExactBoundx2
import Derived.Test.YtdocahjdpikakaaAid
namespace Go.Proofs.Ytdocahjdpikakaa.Pure
open Go.RowKit Go.Proofs.Ytdocahjdpikakaa.PFnExactBound Go.Proofs.YtdocahjdpikakaaW.PrintWords Go.Proofs.YtdocahjdpikakaaW.PrintLast Go.Proofs.YtdocahjdpikakaaW.PrintMore Go.Proofs.Ytdocahjdpikakaa.Aid
set_option linter.unusedVariables false
set_option linter.unusedSimpArgs false
def inB (a b c : Int) : Bool := decide (b ≤ a) && decide (a ≤ c)
theorem inB_iff (a b c : Int) : inB a b c = true ↔ b ≤ a ∧ a ≤ c := by unfold inB; simp
theorem inB_not (a b c : Int) : inB a b c = false ↔ ¬ (b ≤ a ∧ a ≤ c) := by rw [← inB_iff]; simp
theorem in_body (a b c : Int) : (if a ≥ b then (some (decide (a ≤ c))) else (some false)) = some (inB a b c) := by
  unfold inB
  by_cases h : b ≤ a
  · rw [if_pos h]; simp [h]
  · rw [if_neg h]; simp [h]
theorem ite_and (b c : Bool) : (if b = true then some c else some false) = some (b && c) := by cases b <;> rfl
theorem ite_same {α : Type} (b : Bool) (x : α) : (if b = true then x else x) = x := by cases b <;> rfl
theorem sIn (a b c : Int) : spec_l5In.f a b c = some (inB a b c) := in_body a b c
theorem iIn (a b c : Int) : impl_within.f a b c = some (inB a b c) := in_body a b c
def scaleB (a b : Int) : Bool := inB a 1 1099511627776 && inB b 0 255
theorem scale_bd {a b : Int} (h : scaleB a b = true) : 1 ≤ a ∧ a ≤ 1099511627776 ∧ 0 ≤ b ∧ b ≤ 255 := by
  unfold scaleB at h
  rw [Bool.and_eq_true, inB_iff, inB_iff] at h
  omega
theorem sScale (a b : Int) : spec_ScaleOk.f a b = some (scaleB a b) := by
  unfold spec_ScaleOk.f scaleB
  rw [sIn, sIn]; simp only [Option.bind_some]; exact ite_and _ _
theorem iByte (a : Int) : impl_isByte.f a = some (inB a 0 255) := by
  unfold impl_isByte.f; rw [iIn]; rfl
theorem iScale (a b : Int) : impl_ScaleOk.f a b = some (scaleB a b) := by
  unfold impl_ScaleOk.f scaleB
  rw [iIn, iByte]; simp only [Option.bind_some]; exact ite_and _ _
theorem bound_same (k : Nat) (n a az b bz c cz p q : Int) : ∃ r, spec_Bound.f n a az b bz c cz p q = some r ∧ impl_Bound.f (k + 6) n a az b bz c cz p q = some r := by
  have w0 : wrap64 ((0 : Int) + 1) = 1 := wid (by decide) (by decide)
  have w1 : wrap64 ((1 : Int) + 1) = 2 := wid (by decide) (by decide)
  have w2 : wrap64 ((2 : Int) + 1) = 3 := wid (by decide) (by decide)
  unfold spec_Bound.f impl_Bound.f
  simp only [sIn, iIn, sScale, Option.bind_some]
  by_cases h1 : inB n 1 4096 = true
  · rw [if_pos h1, if_pos h1]
    by_cases h2 : inB p 0 16777216 = true
    · rw [if_pos h2, if_pos h2]
      by_cases h3 : inB q 0 16777216 = true
      · rw [if_pos h3, h3]
        simp only [impl_Bound.j0, impl_Bound.l0, Bool.not_true, Bool.false_eq_true, if_false, Option.bind_some, List.length_cons, List.length_nil, iScale, w0, w1, w2]
        have r0 : rd_T41 [(⟨a, az⟩ : S41), ⟨b, bz⟩, ⟨c, cz⟩] 0 = ⟨a, az⟩ := rfl
        have r1 : rd_T41 [(⟨a, az⟩ : S41), ⟨b, bz⟩, ⟨c, cz⟩] 1 = ⟨b, bz⟩ := rfl
        have r2 : rd_T41 [(⟨a, az⟩ : S41), ⟨b, bz⟩, ⟨c, cz⟩] 2 = ⟨c, cz⟩ := rfl
        have l3 : (((0 + 1 + 1 + 1 : Nat)) : Int) = 3 := rfl
        rw [l3, r0, r1, r2]
        simp only [show (0 : Int) < 3 from by decide, show (0 : Int) ≤ 0 from by decide, show (1 : Int) < 3 from by decide, show (0 : Int) ≤ 1 from by decide, show (2 : Int) < 3 from by decide, show (0 : Int) ≤ 2 from by decide, show ¬ (3 : Int) < 3 from by decide, if_true, if_false]
        by_cases s1 : scaleB a az = true
        · rw [if_pos s1, if_pos s1]
          by_cases s2 : scaleB b bz = true
          · rw [if_pos s2]
            by_cases s3 : scaleB c cz = true
            · rw [if_pos s3]
              by_cases g1 : a > 16777216
              · rw [if_pos g1, if_pos g1]; exact ⟨_, rfl, rfl⟩
              · rw [if_neg g1, if_neg g1, if_pos s2]
                by_cases g2 : b > 16777216
                · rw [if_pos g2, if_pos g2]; exact ⟨_, rfl, rfl⟩
                · rw [if_neg g2, if_neg g2, if_pos s3]
                  by_cases g3 : c > 16777216
                  · rw [if_pos g3]; exact ⟨_, rfl, rfl⟩
                  · rw [if_neg g3]; exact ⟨_, rfl, rfl⟩
            · rw [if_neg s3]
              refine ⟨0, rfl, ?_⟩
              by_cases g1 : a > 16777216
              · rw [if_pos g1]
              · rw [if_neg g1, if_pos s2]
                by_cases g2 : b > 16777216
                · rw [if_pos g2]
                · rw [if_neg g2, if_neg s3]
          · rw [if_neg s2]
            refine ⟨0, rfl, ?_⟩
            by_cases g1 : a > 16777216
            · rw [if_pos g1]
            · rw [if_neg g1, if_neg s2]
        · rw [if_neg s1, if_neg s1]; exact ⟨_, rfl, rfl⟩
      · rw [if_neg h3]; rw [Bool.not_eq_true] at h3; rw [h3]; exact ⟨_, rfl, rfl⟩
    · rw [if_neg h2, if_neg h2]; exact ⟨_, rfl, rfl⟩
  · rw [if_neg h1, if_neg h1]; exact ⟨_, rfl, rfl⟩
theorem FnExactBound (a0 a1 a2 a3 a4 a5 a6 a7 a8 : Int) (_ : (Lit.int .i64 a0).wf = true) (_ : (Lit.int .i64 a1).wf = true) (_ : (Lit.int .i64 a2).wf = true) (_ : (Lit.int .i64 a3).wf = true) (_ : (Lit.int .i64 a4).wf = true) (_ : (Lit.int .i64 a5).wf = true) (_ : (Lit.int .i64 a6).wf = true) (_ : (Lit.int .i64 a7).wf = true) (_ : (Lit.int .i64 a8).wf = true) : ∃ k, laws_FnExactBound.f k a0 a1 a2 a3 a4 a5 a6 a7 a8 = some true := by
  refine ⟨6, ?_⟩
  obtain ⟨r, h1, h2⟩ := bound_same 0 a0 a1 a2 a3 a4 a5 a6 a7 a8
  unfold laws_FnExactBound.f laws_toScale.f
  simp only [Option.bind_some]
  rw [h1, h2]; simp

end Go.Proofs.Ytdocahjdpikakaa.Pure
