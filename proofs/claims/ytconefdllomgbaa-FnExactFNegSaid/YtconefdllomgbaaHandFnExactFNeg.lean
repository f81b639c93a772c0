/- laws.FnExactFNeg, walked over the printed contract of the statements' FNeg. No condition. -/
import Derived.Test.YtconefdllomgbaaFSpec
import Derived.Test.YtconefdllomgbaaPFnExactFNegx1
namespace Go.Proofs.Ytconefdllomgbaa.PFnExactFNeg
open Go.RowKit Go.Proofs.Ytconefdllomgbaa.Aid Go.Proofs.Ytconefdllomgbaa.FPlain Go.Proofs.Ytconefdllomgbaa.FWalk Go.Proofs.Ytconefdllomgbaa.FOpen Go.Proofs.YtconefdllomgbaaW.PrintWords Go.Proofs.YtconefdllomgbaaW.PrintLast Go.Proofs.YtconefdllomgbaaW.PrintMore
set_option linter.unusedVariables false
set_option linter.unusedSimpArgs false
theorem open_same (a : Int) : spec_l2Open.f 2 a = PFnExactFMul.spec_l2Open.f 2 a := by
  unfold spec_l2Open.f PFnExactFMul.spec_l2Open.f
  simp only [spec_l2Open.j0, spec_l2Open.j1, PFnExactFMul.spec_l2Open.j0, PFnExactFMul.spec_l2Open.j1]
theorem not_nan {b : Nat} {d : Ieee.Datum} (h : Ieee.single.read b = d) : isNaN b = d.isNaN := by
  show (Ieee.single.read b).isNaN = _
  rw [h]
def lawV (a : Int) : Int := negV a
theorem lawS (a : Int) (hw : (Lit.int .i64 a).wf = true) (w : World) : Calls Try.prog 19 #[.int .i64 a] w fun e w' => e = .returned (.int .i64 (lawV a)) ∧ Below w.heap.size w w' := by
  refine spec_FNeg.calls 2 a _ w ?_
  unfold spec_FNeg.f lawV negV
  rw [open_same]
  cases opened a with
  | nan n h hr hf => rw [hf, h]; rfl
  | inf n ha hs hr hf => rw [hf, not_nan hr]; rfl
  | num n m e h1 h2 h3 h4 ha hs hr hf => rw [hf, not_nan hr]; rfl
theorem lawI (a : Int) (w : World) : Calls Try.prog 20 #[.int .i64 a] w fun e w' => e = .returned (.int .i64 (lawV a)) ∧ Below w.heap.size w w' := neg_calls a w
set_option maxRecDepth 100000 in
set_option maxHeartbeats 4000000 in
theorem laws_FnExactFNeg.calls (a0 : Int) (r : Bool) (w : World) (h : r = true ∧ (Lit.int .i64 a0).wf = true) :
    Calls Try.prog 7 #[.int .i64 a0] w fun e w' => e = .returned (.bool r) ∧ Below w.heap.size w w' := by
  obtain ⟨rfl, hw⟩ := h
  have hS := lawS a0 hw
  have hI := lawI a0
  generalize lawV a0 = v at hS hI
  go_enter Try.func7, Try.ntmps7
  go_wp2_with fail
  refine (hS _).mono ?_
  rintro e w1 ⟨rfl, b1⟩
  go_wp2_with fail
  refine (hI _).mono ?_
  rintro e w2 ⟨rfl, b2⟩
  go_wp2_with fail
  go_ret
  exact ⟨rfl, below_step b1 b2⟩
end Go.Proofs.Ytconefdllomgbaa.PFnExactFNeg
namespace Go.Proofs.Ytconefdllomgbaa.Pure
set_option linter.unusedVariables false in
theorem FnExactFNeg (a0 : Int) (w0 : (Lit.int .i64 a0).wf = true) : true = true ∧ (Lit.int .i64 a0).wf = true := ⟨rfl, w0⟩
end Go.Proofs.Ytconefdllomgbaa.Pure
