/- The draw of a power: whatever the bytes, it returns some values. No condition. -/
import Derived.Test.YtjgokmnhhcpkcaaDraws
namespace Go.Proofs.Ytjgokmnhhcpkcaa.Draws
open Go.RowKit Go.Proofs.Ytjgokmnhhcpkcaa.Aid Go.Proofs.Ytjgokmnhhcpkcaa.L1New Go.Proofs.Ytjgokmnhhcpkcaa.Pl1Any Go.Proofs.YtjgokmnhhcpkcaaW.PrintWords Go.Proofs.YtjgokmnhhcpkcaaW.PrintLast Go.Proofs.YtjgokmnhhcpkcaaW.PrintMore
set_option linter.unusedVariables false
set_option linter.unusedSimpArgs false
set_option maxRecDepth 100000 in
set_option maxHeartbeats 1000000 in
theorem drawPower_calls (A0 : Option Addr) (c0 : Nat) (l0 : List Int) (w : World) (hr0 : Kd.C (Kd.int .u8) w A0 l0.length l0) (hc0 : l0.length ≤ c0) (hm : l0.length ≤ 140737488351232) :
    Calls Try.prog 17 #[.slice A0 l0.length c0] w fun e w' => ∃ x y, e = .returned (.tuple #[.int .i64 x, .int .i64 y]) ∧ Below w.heap.size w w' := by
  have hN := l1New_calls A0 c0 l0 w hr0 hc0 hm
  go_enter Try.func17, Try.ntmps17
  go_wp2_with fail
  refine hN.mono ?_
  rintro e w1 ⟨g, h, rfl, hI1, hB1⟩
  go_wp2_with fail
  refine (any_calls w _ g l0 0 h hI1 hB1 hm (by decide) (by omega)).mono ?_
  rintro e w2 ⟨x, j2, k2, rfl, hI2, hB2, p2, q2⟩
  go_wp2_with fail
  refine (below_calls w _ g l0 j2 k2 9 hI2 hB2 hm p2 q2).mono ?_
  rintro e w3 ⟨x3, j3, k3, rfl, hI3, hB3, p3, q3, _, _⟩
  go_wp2_with fail
  refine (below_calls w _ g l0 j3 k3 9 hI3 hB3 hm p3 q3).mono ?_
  rintro e w4 ⟨x4, j4, k4, rfl, hI4, hB4, p4, q4, _, _⟩
  go_wp2_with fail
  refine (below_calls w _ g l0 j4 k4 1000 hI4 hB4 hm p4 q4).mono ?_
  rintro e w5 ⟨x5, j5, k5, rfl, hI5, hB5, p5, q5, _, _⟩
  go_wp2_with fail
  refine (pick_calls w _ g l0 j5 k5 (some ⟨w5.heap.size, 0, none⟩) 7 [x3, -x4, 1000000, 1000001, (-1000000), (-1000001), x5] (IsS62.alloc hI5 _) (by (with_reducible apply below_alloc); exact hB5) hm p5 q5 (lit_C w5 [x3, -x4, 1000000, 1000001, (-1000000), (-1000001), x5] 3 (by simp)) (Nat.le_refl _) (fun ad h _ => by cases h; exact IsS62.fresh hI5 _ (Nat.le_refl _)) (Nat.zero_lt_succ _)).mono ?_
  rintro e w7 ⟨y, j7, k7, rfl, hI7, hB7, p7, q7⟩
  go_wp2_with fail
  go_ret2
  exact ⟨x, y, rfl, hB7⟩
end Go.Proofs.Ytjgokmnhhcpkcaa.Draws
