/- laws.FnExactConstants, walked. No condition. -/
import Derived.Test.YtnefaadcokniiaaProg
import Derived.WalkKit
import Derived.Below
namespace Go.Proofs.Ytnefaadcokniiaa.PFnExactConstants
open Go.RowKit
set_option maxRecDepth 100000 in
set_option maxHeartbeats 8000000 in
theorem laws_FnExactConstants.calls (r : Bool) (w : World) (h : r = true) :
    Calls Try.prog 3 #[] w fun e w' => e = .returned (.bool r) ∧ Below w.heap.size w w' := by
  subst h
  go_enter Try.func3, Try.ntmps3
  go_wp2_with fail
  go_ret
  exact ⟨rfl, Below.refl _ _⟩
end Go.Proofs.Ytnefaadcokniiaa.PFnExactConstants
namespace Go.Proofs.Ytnefaadcokniiaa.Pure
theorem FnExactConstants : true = true := rfl
end Go.Proofs.Ytnefaadcokniiaa.Pure
