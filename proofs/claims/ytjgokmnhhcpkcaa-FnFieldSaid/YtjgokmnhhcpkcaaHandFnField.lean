/- laws.FnField, walked: the laws of a field hold of the program's Plus, Minus, Times, Over and Power at every draw. No condition. -/
import Derived.Test.YtjgokmnhhcpkcaaDrawsPower
import Derived.Test.YtjgokmnhhcpkcaaOps
namespace Go.Proofs.Ytjgokmnhhcpkcaa.PFnField
open Go.RowKit Go.Proofs.Ytjgokmnhhcpkcaa.Aid Go.Proofs.Ytjgokmnhhcpkcaa.Draws Go.Proofs.Ytjgokmnhhcpkcaa.Ops Go.Proofs.YtjgokmnhhcpkcaaW.PrintWords Go.Proofs.YtjgokmnhhcpkcaaW.PrintLast Go.Proofs.YtjgokmnhhcpkcaaW.PrintMore
set_option linter.unusedVariables false
set_option linter.unusedSimpArgs false
theorem big_calls (A0 : Option Addr) (c0 : Nat) (l0 : List Int) (w : World) :
    Calls Try.prog 15 #[.slice A0 l0.length c0] w fun e w' => e = .returned (.bool (decide (1048576 < (l0.length : Int)))) ∧ w = w' := by
  go_enter Try.func15, Try.ntmps15
  go_wp2
  go_ret
  exact ⟨rfl, rfl⟩
theorem smod_calls (a : Int) (w : World) : Calls Try.prog 22 #[.int .i64 a] w fun e w' => e = .returned (.int .i64 (md a)) ∧ Drawn0 w w' := by
  have h := Pl1Any.spec_Mod.calls a (md a) w (by have := Draws.sMod a; unfold md; exact this)
  exact h
theorem plus_is {a b r : Int} (h : pl a b = r) (w : World) : Calls Try.prog 18 #[.int .i64 a, .int .i64 b] w fun e w' => e = .returned (.int .i64 r) ∧ Drawn0 w w' := h ▸ Plus.calls a b w
theorem times_is {a b r : Int} (h : ti a b = r) (w : World) : Calls Try.prog 19 #[.int .i64 a, .int .i64 b] w fun e w' => e = .returned (.int .i64 r) ∧ Drawn0 w w' := h ▸ Times.calls a b w
theorem minus_is {a b r : Int} (h : mi a b = r) (w : World) : Calls Try.prog 20 #[.int .i64 a, .int .i64 b] w fun e w' => e = .returned (.int .i64 r) ∧ Drawn0 w w' := h ▸ Minus.calls a b w
theorem over_is {a b r : Int} (h : ov a b = r) (w : World) : Calls Try.prog 23 #[.int .i64 a, .int .i64 b] w fun e w' => e = .returned (.int .i64 r) ∧ Drawn0 w w' := h ▸ Over.calls a b w
theorem power_is {a b r : Int} (h : pw a b = r) (w : World) : Calls Try.prog 24 #[.int .i64 a, .int .i64 b] w fun e w' => e = .returned (.int .i64 r) ∧ Drawn0 w w' := h ▸ power_calls a b w
theorem pl23 : pl 2 3 = 5 := by unfold pl; rfl
theorem ti23 : ti 2 3 = 6 := by unfold ti; rfl
set_option maxRecDepth 100000 in
set_option maxHeartbeats 1000000 in
theorem big0 (A0 : Option Addr) (c0 : Nat) (l0 : List Int) (A1 : Option Addr) (c1 : Nat) (l1 : List Int) (w : World) (h : decide (1048576 < (l0.length : Int)) = true) :
    Calls Try.prog 3 #[.slice A0 l0.length c0, .slice A1 l1.length c1] w fun e w' => e = .returned (.bool true) ∧ Below w.heap.size w w' := by
  have hb := big_calls A0 c0 l0 w
  rw [h] at hb
  clear h
  go_enter Try.func3, Try.ntmps3
  go_wp2_with fail
  refine hb.mono ?_
  rintro e w' ⟨rfl, rfl⟩
  go_wp2_with fail
  go_ret
  exact ⟨rfl, Below.refl _ _⟩
set_option maxRecDepth 100000 in
set_option maxHeartbeats 1000000 in
theorem big1 (A0 : Option Addr) (c0 : Nat) (l0 : List Int) (A1 : Option Addr) (c1 : Nat) (l1 : List Int) (w : World) (h : decide (1048576 < (l0.length : Int)) = false) (h1 : decide (1048576 < (l1.length : Int)) = true) :
    Calls Try.prog 3 #[.slice A0 l0.length c0, .slice A1 l1.length c1] w fun e w' => e = .returned (.bool true) ∧ Below w.heap.size w w' := by
  have hb := big_calls A0 c0 l0 w
  have hc := big_calls A1 c1 l1 w
  rw [h] at hb
  rw [h1] at hc
  clear h h1
  go_enter Try.func3, Try.ntmps3
  go_wp2_with fail
  refine hb.mono ?_
  rintro e w' ⟨rfl, rfl⟩
  go_wp2_with fail
  refine hc.mono ?_
  rintro e w' ⟨rfl, rfl⟩
  go_wp2_with fail
  go_ret
  exact ⟨rfl, Below.refl _ _⟩
set_option maxRecDepth 100000 in
set_option maxHeartbeats 1000000 in
theorem rest_ (A0 : Option Addr) (c0 : Nat) (l0 : List Int) (A1 : Option Addr) (c1 : Nat) (l1 : List Int) (w : World) (h : decide (1048576 < (l0.length : Int)) = false) (h1 : decide (1048576 < (l1.length : Int)) = false)
    (hr0 : Kd.C (Kd.int .u8) w A0 l0.length l0) (hc0 : l0.length ≤ c0) (hr1 : Kd.C (Kd.int .u8) w A1 l1.length l1) (hc1 : l1.length ≤ c1) :
    Calls Try.prog 3 #[.slice A0 l0.length c0, .slice A1 l1.length c1] w fun e w' => e = .returned (.bool true) ∧ Below w.heap.size w w' := by
  have hb := big_calls A0 c0 l0 w
  have hc := big_calls A1 c1 l1 w
  have m0 : l0.length ≤ 140737488351232 := by have := of_decide_eq_false h; omega
  have m1 : l1.length ≤ 140737488351232 := by have := of_decide_eq_false h1; omega
  rw [h] at hb
  rw [h1] at hc
  clear h h1
  have hd := drawPlus_calls A0 c0 l0 w hr0 hc0 m0
  go_enter Try.func3, Try.ntmps3
  go_wp2_with fail
  refine hb.mono ?_
  rintro e w' ⟨rfl, rfl⟩
  go_wp2_with fail
  refine hc.mono ?_
  rintro e w' ⟨rfl, rfl⟩
  go_wp2_with fail
  refine hd.mono ?_
  rintro e w1 ⟨a, b, rfl, hB1⟩
  go_wp2_with fail
  refine (drawPower_calls A1 c1 l1 w1 (Kd.C_below hr1 hB1) hc1 m1).mono ?_
  rintro e w2 ⟨c, n, rfl, hB2⟩
  have hB := hB1.trans (hB2.mono hB1.size)
  clear hB1 hB2
  go_wp2_with fail
  refine (plus_is pl23 _).mono ?_
  rintro e w' ⟨rfl, ⟨nd, rfl⟩⟩
  go_wp2_with fail
  refine (times_is ti23 _).mono ?_
  rintro e w' ⟨rfl, ⟨nd, rfl⟩⟩
  go_wp2_with fail
  refine (plus_is (a := a) (b := b) rfl _).mono ?_
  rintro e w' ⟨rfl, ⟨nd, rfl⟩⟩
  go_wp2_with fail
  refine (plus_is (pl_comm b a) _).mono ?_
  rintro e w' ⟨rfl, ⟨nd, rfl⟩⟩
  go_wp2_with fail
  refine (plus_is (a := a) (b := b) rfl _).mono ?_
  rintro e w' ⟨rfl, ⟨nd, rfl⟩⟩
  go_wp2_with fail
  refine (plus_is (a := pl a b) (b := c) rfl _).mono ?_
  rintro e w' ⟨rfl, ⟨nd, rfl⟩⟩
  go_wp2_with fail
  refine (plus_is (a := b) (b := c) rfl _).mono ?_
  rintro e w' ⟨rfl, ⟨nd, rfl⟩⟩
  go_wp2_with fail
  refine (plus_is (pl_assoc a b c).symm _).mono ?_
  rintro e w' ⟨rfl, ⟨nd, rfl⟩⟩
  go_wp2_with fail
  refine (times_is (a := a) (b := b) rfl _).mono ?_
  rintro e w' ⟨rfl, ⟨nd, rfl⟩⟩
  go_wp2_with fail
  refine (times_is (ti_comm b a) _).mono ?_
  rintro e w' ⟨rfl, ⟨nd, rfl⟩⟩
  go_wp2_with fail
  refine (times_is (a := a) (b := b) rfl _).mono ?_
  rintro e w' ⟨rfl, ⟨nd, rfl⟩⟩
  go_wp2_with fail
  refine (times_is (a := ti a b) (b := c) rfl _).mono ?_
  rintro e w' ⟨rfl, ⟨nd, rfl⟩⟩
  go_wp2_with fail
  refine (times_is (a := b) (b := c) rfl _).mono ?_
  rintro e w' ⟨rfl, ⟨nd, rfl⟩⟩
  go_wp2_with fail
  refine (times_is (ti_assoc a b c).symm _).mono ?_
  rintro e w' ⟨rfl, ⟨nd, rfl⟩⟩
  go_wp2_with fail
  refine (plus_is (a := b) (b := c) rfl _).mono ?_
  rintro e w' ⟨rfl, ⟨nd, rfl⟩⟩
  go_wp2_with fail
  refine (times_is (a := a) (b := pl b c) rfl _).mono ?_
  rintro e w' ⟨rfl, ⟨nd, rfl⟩⟩
  go_wp2_with fail
  refine (times_is (a := a) (b := b) rfl _).mono ?_
  rintro e w' ⟨rfl, ⟨nd, rfl⟩⟩
  go_wp2_with fail
  refine (times_is (a := a) (b := c) rfl _).mono ?_
  rintro e w' ⟨rfl, ⟨nd, rfl⟩⟩
  go_wp2_with fail
  refine (plus_is (ti_pl a b c).symm _).mono ?_
  rintro e w' ⟨rfl, ⟨nd, rfl⟩⟩
  go_wp2_with fail
  refine (plus_is (a := a) (b := b) rfl _).mono ?_
  rintro e w' ⟨rfl, ⟨nd, rfl⟩⟩
  go_wp2_with fail
  refine (minus_is (mi_pl a b) _).mono ?_
  rintro e w' ⟨rfl, ⟨nd, rfl⟩⟩
  go_wp2_with fail
  refine (Minus.mod_calls a _).mono ?_
  rintro e w' ⟨rfl, ⟨nd, rfl⟩⟩
  go_wp2_with fail
  refine (smod_calls b _).mono ?_
  rintro e w' ⟨rfl, ⟨nd, rfl⟩⟩
  by_cases h4 : md b = 0
  case' pos =>
    have b1 : (md b == 0) = true := beq_iff_eq.mpr h4
    have b2 : (md b != 0) = false := bne_eq_false_iff_eq.mpr h4
    clear h4
  case' neg =>
    have ho := ti_ov a b h4
    have b1 : (md b == 0) = false := beq_eq_false_iff_ne.mpr h4
    have b2 : (md b != 0) = true := bne_iff_ne.mpr h4
    have HO := Aside0.mk ho
    clear h4 ho
    go_wp2_with fail
    refine (over_is (a := a) (b := b) rfl _).mono ?_
    rintro e w' ⟨rfl, ⟨nd, rfl⟩⟩
    go_wp2_with fail
    refine (times_is HO.out _).mono ?_
    rintro e w' ⟨rfl, ⟨nd, rfl⟩⟩
    go_wp2_with fail
    refine (Minus.mod_calls a _).mono ?_
    rintro e w' ⟨rfl, ⟨nd, rfl⟩⟩
  all_goals
    by_cases h5 : 1000 < n
    · have d5 : decide (1000 < n) = true := decide_eq_true h5
      go_wp2_with fail
      go_ret
      exact ⟨rfl, by repeat (first | exact hB | apply pw_below_drewN)⟩
    · have d5 : decide (1000 < n) = false := decide_eq_false h5
      by_cases h6 : n < -1000
      · have d6 : decide (n < -1000) = true := decide_eq_true h6
        go_wp2_with fail
        go_ret
        exact ⟨rfl, by repeat (first | exact hB | apply pw_below_drewN)⟩
      · have d6 : decide (n < -1000) = false := decide_eq_false h6
        go_wp2_with fail
        refine (smod_calls c _).mono ?_
        rintro e w' ⟨rfl, ⟨nd, rfl⟩⟩
        by_cases h7 : md c = 0
        · have b3 : (md c == 0) = true := beq_iff_eq.mpr h7
          clear h7
          go_wp2_with fail
          go_ret
          exact ⟨rfl, by repeat (first | exact hB | apply pw_below_drewN)⟩
        · have b3 : (md c == 0) = false := beq_eq_false_iff_ne.mpr h7
          have HP := Aside0.mk (ti_pw c n h7 (by omega) (by omega))
          clear h7
          have l1_ : -1000 ≤ n := by omega
          have l2_ : n ≤ 1000 := by omega
          clear h5 h6
          go_wp2_with fail
          refine (power_is (a := c) (b := n) rfl _).mono ?_
          rintro e w' ⟨rfl, ⟨nd, rfl⟩⟩
          go_wp2_with fail
          refine (power_is (a := c) (b := 3) rfl _).mono ?_
          rintro e w' ⟨rfl, ⟨nd, rfl⟩⟩
          go_wp2_with fail
          refine (times_is HP.out _).mono ?_
          rintro e w' ⟨rfl, ⟨nd, rfl⟩⟩
          go_wp2_with fail
          refine (power_is (a := c) (b := n + 3) rfl _).mono ?_
          rintro e w' ⟨rfl, ⟨nd, rfl⟩⟩
          go_wp2_with fail
          go_ret
          exact ⟨by simp, by repeat (first | exact hB | apply pw_below_drewN)⟩
theorem laws_FnField.calls (A0 : Option Addr) (c0 : Nat) (l0 : List Int) (A1 : Option Addr) (c1 : Nat) (l1 : List Int) (r : Bool) (w : World) (hr0 : Kd.C (Kd.int .u8) w A0 l0.length l0) (hc0 : l0.length ≤ c0) (hr1 : Kd.C (Kd.int .u8) w A1 l1.length l1) (hc1 : l1.length ≤ c1) (h : true = r) :
    Calls Try.prog 3 #[.slice A0 l0.length c0, .slice A1 l1.length c1] w fun e w' => e = .returned (.bool r) ∧ Below w.heap.size w w' := by
  subst h
  cases h0 : decide (1048576 < (l0.length : Int)) with
  | true => exact big0 A0 c0 l0 A1 c1 l1 w h0
  | false =>
    cases h1 : decide (1048576 < (l1.length : Int)) with
    | true => exact big1 A0 c0 l0 A1 c1 l1 w h0 h1
    | false => exact rest_ A0 c0 l0 A1 c1 l1 w h0 h1 hr0 hc0 hr1 hc1
end Go.Proofs.Ytjgokmnhhcpkcaa.PFnField
namespace Go.Proofs.Ytjgokmnhhcpkcaa.Pure
theorem FnField (l0 l1 : List Int) (_ : l0.length ≤ maxLen) (_ : ∀ x ∈ l0, (Lit.int .u8 x).wf = true) (_ : l1.length ≤ maxLen) (_ : ∀ x ∈ l1, (Lit.int .u8 x).wf = true) : true = true := rfl
end Go.Proofs.Ytjgokmnhhcpkcaa.Pure
