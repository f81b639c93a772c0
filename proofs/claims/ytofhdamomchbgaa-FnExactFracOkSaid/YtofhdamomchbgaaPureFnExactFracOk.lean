/- laws.FnExactFracOk: the program's FracOk returns what the reference's returns, for every fraction. No condition. -/
import Derived.Test.YtofhdamomchbgaaPFnExactFracOkx1
import Derived.Test.YtofhdamomchbgaaAid
namespace Go.Proofs.Ytofhdamomchbgaa.Pure
open Go.RowKit Go.Proofs.Ytofhdamomchbgaa.PFnExactFracOk Go.Proofs.YtofhdamomchbgaaW.PrintWords Go.Proofs.YtofhdamomchbgaaW.PrintLast Go.Proofs.YtofhdamomchbgaaW.PrintMore Go.Proofs.Ytofhdamomchbgaa.Aid
set_option linter.unusedVariables false
set_option linter.unusedSimpArgs false
def inB (a b c : Int) : Bool := decide (b ≤ a) && decide (a ≤ c)
theorem inB_iff (a b c : Int) : inB a b c = true ↔ b ≤ a ∧ a ≤ c := by unfold inB; simp
theorem inB_not (a b c : Int) : inB a b c = false ↔ ¬ (b ≤ a ∧ a ≤ c) := by rw [← inB_iff]; simp
theorem in_body (a b c : Int) : (if a ≥ b then (some (decide (a ≤ c))) else (some false)) = some (inB a b c) := by
  unfold inB
  by_cases h : b ≤ a
  · rw [if_pos h]; simp [h]
  · rw [if_neg h]; simp [h]
theorem ite_and (b c : Bool) : (if b = true then some c else some false) = some (b && c) := by cases b <;> rfl
theorem ite_same {α : Type} (b : Bool) (x : α) : (if b = true then x else x) = x := by cases b <;> rfl
theorem gcd_step (a b : Nat) : Nat.gcd b (a % b) = Nat.gcd a b := by
  rw [Nat.gcd_comm b, ← Nat.gcd_rec, Nat.gcd_comm]
theorem sCommon : ∀ (k a b : Nat), b < k → spec_l1Common.f k a b = some ((Nat.gcd a b : Nat) : Int) := by
  intro k
  induction k with
  | zero => intro a b h; omega
  | succ k ih =>
    intro a b h
    simp only [spec_l1Common.f]
    by_cases c : b = 0
    · subst c; simp
    · have e : Int.tmod (a : Int) (b : Int) = ((a % b : Nat) : Int) := by rw [tmod_nn (by omega)]; simp
      have l := Nat.mod_lt a (show 0 < b by omega)
      rw [if_neg (by omega), e, ih b (a % b) (by omega), gcd_step]; rfl
theorem iGcdLoop : ∀ (k : Nat) (x y : Int), -32767 ≤ x → x ≤ 32767 → y.natAbs < k → -32767 ≤ y → y ≤ 32767 → impl_gcd.l0 k x y = some ((Nat.gcd x.natAbs y.natAbs : Nat) : Int) := by
  intro k
  induction k with
  | zero => intro x y _ _ h; omega
  | succ k ih =>
    intro x y x0 x1 h y0 y1
    simp only [impl_gcd.l0]
    by_cases c : y = 0
    · subst c
      rw [if_pos rfl, wid (by omega) (by omega)]
      congr 1
      simp only [Int.natAbs_zero, Nat.gcd_zero_right]
      unfold mx
      split <;> omega
    · have e : (Int.tmod x y).natAbs = x.natAbs % y.natAbs := Int.natAbs_tmod x y
      have l := Nat.mod_lt x.natAbs (show 0 < y.natAbs by omega)
      rw [if_neg c, ih y _ y0 y1 (by omega) (by omega) (by omega), e, gcd_step]
def fracB (n d : Int) : Bool := inB d 1 32767 && (inB n (-32767) 32767 && (((Nat.gcd n.natAbs d.natAbs : Nat) : Int) == 1))
theorem sFrac (k : Nat) (hk : 40000 ≤ k) (n d : Int) : spec_FracOk.f (k + 1) n d = some (fracB n d) := by
  unfold spec_FracOk.f fracB inB
  by_cases h1 : d < 1
  · rw [if_pos h1]; simp only [spec_FracOk.j0]; simp [show ¬ 1 ≤ d by omega]
  · rw [if_neg h1]
    by_cases h2 : d > 32767
    · rw [if_pos h2]; simp only [spec_FracOk.j0]; simp [show ¬ d ≤ 32767 by omega]
    · rw [if_neg h2]
      by_cases h3 : n < -32767
      · rw [if_pos h3]; simp only [spec_FracOk.j0]; simp [show ¬ -32767 ≤ n by omega]
      · rw [if_neg h3]
        simp only [spec_FracOk.j0]
        by_cases h4 : n > 32767
        · simp [h4, show ¬ n ≤ 32767 by omega]
        · rw [if_neg (by simpa using h4)]
          have ea : spec_l1Abs.f n = some (n.natAbs : Int) := by
            unfold spec_l1Abs.f
            by_cases g : n < 0
            · rw [if_pos g, wid (by omega) (by omega)]; congr 1; omega
            · rw [if_neg g]; congr 1; omega
          have ed : d = (d.natAbs : Int) := by omega
          rw [ea]; simp only [Option.bind_some]
          rw [ed, sCommon k n.natAbs d.natAbs (by omega)]
          simp [show 1 ≤ d by omega, show d ≤ 32767 by omega, show -32767 ≤ n by omega, show n ≤ 32767 by omega]
          omega
theorem iFrac (k : Nat) (hk : 40000 ≤ k) (n d : Int) : impl_FracOk.f k n d = some (fracB n d) := by
  unfold impl_FracOk.f fracB inB
  by_cases h1 : d ≥ 1
  · rw [if_pos h1]
    by_cases h2 : d ≤ 32767
    · rw [if_pos h2]
      by_cases h3 : n ≥ -32767
      · rw [if_pos h3]
        by_cases h4 : n ≤ 32767
        · rw [if_pos h4]
          unfold impl_gcd.f
          rw [iGcdLoop k n d h3 h4 (by omega) (by omega) h2]
          simp [h1, h2, h3, h4]
        · rw [if_neg h4]; simp [h4]
      · rw [if_neg h3]; simp [show ¬ -32767 ≤ n by omega]
    · rw [if_neg h2]; simp [h2]
  · rw [if_neg h1]; simp [show ¬ 1 ≤ d by omega]
theorem FnExactFracOk (a0 a1 : Int) (_ : (Lit.int .i64 a0).wf = true) (_ : (Lit.int .i64 a1).wf = true) : ∃ k, laws_FnExactFracOk.f k a0 a1 = some true := by
  refine ⟨40001, ?_⟩
  unfold laws_FnExactFracOk.f laws_toFrac.f
  simp only [Option.bind_some]
  rw [sFrac 40000 (by decide), iFrac 40001 (by decide)]; simp

end Go.Proofs.Ytofhdamomchbgaa.Pure
