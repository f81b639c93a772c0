/- laws.FnExactToFrac, walked: the program's ToFrac returns what the reference's returns, for every number. No condition. -/
import Derived.Test.YtkbbgjoohffooaaToFracW
namespace Go.Proofs.Ytkbbgjoohffooaa.PFnExactToFrac
open Go.RowKit Go.Proofs.Ytkbbgjoohffooaa.Aid Go.Proofs.YtkbbgjoohffooaaW.PrintWords Go.Proofs.YtkbbgjoohffooaaW.PrintLast Go.Proofs.YtkbbgjoohffooaaW.PrintMore Go.Proofs.Ytkbbgjoohffooaa.FracP
set_option linter.unusedVariables false
set_option linter.unusedSimpArgs false
theorem spec_some (a0 : Int) : ∃ n d ok, spec_ToFrac.l0 65535 (a0 % 2147483647) 0 1 = some (n, d, ok) := by
  rcases spec_loop 32767 (a0 % 2147483647) 0 1 (m_lo a0) (m_hi a0) (by decide) (by decide) (by decide) (by decide) ⟨0, by simp⟩ (fun n e g => g.2.2.2.1) with ⟨n, e, hs, _⟩ | ⟨hs, _⟩
  · exact ⟨_, _, _, hs⟩
  · exact ⟨_, _, _, hs⟩
set_option maxRecDepth 100000 in
set_option maxHeartbeats 2000000 in
theorem law_walk (a0 : Int) (w : World) : Calls Try.prog 8 #[.int .i64 a0] w fun e w' => e = .returned (.bool true) ∧ Below w.heap.size w w' := by
  obtain ⟨n, d, ok, h⟩ := spec_some a0
  have HS := fun w => spec_ToFrac.calls 65535 a0 n d ok w (by unfold spec_ToFrac.f; rw [sMod]; exact h)
  have HI := fun w => impl_ToFrac_calls a0 n d ok w h
  have HE := fun w => laws_eqFrac.calls n d n d true w (by simp [laws_eqFrac.f])
  have HB := Aside0.mk (Below.refl w.heap.size w)
  clear h
  go_enter Try.func8, Try.ntmps8
  go_wp2_with fail
  refine (HS _).mono ?_
  rintro e w2 ⟨rfl, hb⟩
  have HB := Aside0.mk (below_step HB.out hb)
  clear hb
  go_wp2_with fail
  refine (HI _).mono ?_
  rintro e w3 ⟨rfl, hb⟩
  have HB := Aside0.mk (below_step (below_alloc HB.out _) hb)
  have HG := Aside0.mk (blk_below (blk_new w2 (.cells #[.int .i64 n, .int .i64 d] 51 (0, 0))) hb)
  have HG := Aside0.mk (blk_alloc HG.out (.cells #[.int .i64 n, .int .i64 d] 51 (0, 0)))
  have g0 := (blk_cell HG.out 0).trans rfl
  have g1 := (blk_cell HG.out 1).trans rfl
  have HB := Aside0.mk (below_alloc HB.out (.cells #[.int .i64 n, .int .i64 d] 51 (0, 0)))
  clear hb
  go_wp2_with fail
  refine (HE _).mono ?_
  rintro e w4 ⟨rfl, hb⟩
  have HB := Aside0.mk (below_step HB.out hb)
  clear hb
  have hk : (ok != ok) = false := by simp
  go_wp2_with fail
  go_ret
  exact ⟨rfl, HB.out⟩
theorem laws_FnExactToFrac.calls (a0 : Int) (r : Bool) (w : World) (h : true = r) :
    Calls Try.prog 8 #[.int .i64 a0] w fun e w' => e = .returned (.bool r) ∧ Below w.heap.size w w' := by
  subst h
  exact law_walk a0 w
end Go.Proofs.Ytkbbgjoohffooaa.PFnExactToFrac
namespace Go.Proofs.Ytkbbgjoohffooaa.Pure
set_option linter.unusedVariables false in
theorem FnExactToFrac (a0 : Int) (w0 : (Lit.int .i64 a0).wf = true) : true = true := rfl
end Go.Proofs.Ytkbbgjoohffooaa.Pure
