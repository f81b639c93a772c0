/- laws.FnExactFMul, walked: the statements' product is IEEE 754's. No condition. -/
import Derived.Test.YtconefdllomgbaaFSpec
import Derived.Test.YtconefdllomgbaaFMulS
namespace Go.Proofs.Ytconefdllomgbaa.PFnExactFMul
open Go.RowKit Go.Proofs.Ytconefdllomgbaa.Aid Go.Proofs.Ytconefdllomgbaa.FPlain Go.Proofs.Ytconefdllomgbaa.FWalk Go.Proofs.Ytconefdllomgbaa.FOpen Go.Proofs.Ytconefdllomgbaa.FClose Go.Proofs.Ytconefdllomgbaa.FSpec Go.Proofs.YtconefdllomgbaaW.PrintWords Go.Proofs.YtconefdllomgbaaW.PrintLast Go.Proofs.YtconefdllomgbaaW.PrintMore
set_option linter.unusedVariables false
set_option linter.unusedSimpArgs false
theorem xor_ne (a b : Bool) : (a ^^ b) = (a != b) := by cases a <;> cases b <;> rfl
theorem mulS_calls (a b : Int) (w : World) : Calls Try.prog 13 #[.int .i64 a, .int .i64 b] w fun e w' => e = .returned (.int .i64 (datV ((Ieee.single.read (sgl a)).product (Ieee.single.read (sgl b))))) ∧ Below w.heap.size w w' := by
  cases opened a with
  | nan n1 h hr hf =>
    obtain ⟨s, t, hr⟩ := hr
    have hv : datV ((Ieee.single.read (sgl a)).product (Ieee.single.read (sgl b))) = 2143289344 := by rw [hr]; rfl
    rw [hv]
    cases opened b with
    | nan n2 h2 hr2 hf2 => exact FMulS.nan_any a b 0 n1 n2 2 0 0 (open_calls hf) (open_calls hf2) w
    | inf n2 ha2 hs2 hr2 hf2 => exact FMulS.nan_any a b 0 n1 n2 1 0 0 (open_calls hf) (open_calls hf2) w
    | num n2 m2 e2 h1 h2 h3 h4 ha2 hs2 hr2 hf2 => exact FMulS.nan_any a b 0 n1 n2 0 m2 e2 (open_calls hf) (open_calls hf2) w
  | inf n1 ha hs hr hf =>
    cases opened b with
    | nan n2 h2 hr2 hf2 =>
      obtain ⟨s, t, hr2⟩ := hr2
      have hv : datV ((Ieee.single.read (sgl a)).product (Ieee.single.read (sgl b))) = 2143289344 := by rw [hr, hr2]; rfl
      rw [hv]; exact FMulS.any_nan a b 0 n1 n2 1 0 0 rfl (open_calls hf) (open_calls hf2) w
    | inf n2 ha2 hs2 hr2 hf2 =>
      have hv : datV ((Ieee.single.read (sgl a)).product (Ieee.single.read (sgl b))) = ((sgn (n1 != n2) + 2139095040 : Nat) : Int) := by rw [hr, hr2, ← xor_ne]; exact datV_inf _
      rw [hv]; exact FMulS.inf_inf a b _ n1 n2 (inf_calls _) (open_calls hf) (open_calls hf2) w
    | num n2 m2 e2 h1 h2 h3 h4 ha2 hs2 hr2 hf2 =>
      by_cases z : m2 = 0
      · subst z
        have hv : datV ((Ieee.single.read (sgl a)).product (Ieee.single.read (sgl b))) = 2143289344 := by rw [hr, hr2]; rfl
        rw [hv]; exact FMulS.inf_nought a b 0 n1 n2 e2 (open_calls hf) (open_calls hf2) w
      · have hv : datV ((Ieee.single.read (sgl a)).product (Ieee.single.read (sgl b))) = ((sgn (n1 != n2) + 2139095040 : Nat) : Int) := by
          rw [hr, hr2, ← xor_ne]
          show datV (if m2 = 0 then none else some (.infinity (n1 ^^ n2))) = _
          rw [if_neg z]; exact datV_inf _
        rw [hv]; exact FMulS.inf_num a b _ n1 n2 m2 e2 (by rw [beq_eq_false_iff_ne]; omega) (inf_calls _) (open_calls hf) (open_calls hf2) w
  | num n1 m1 e1 g1 g2 g3 g4 ha hs hr hf =>
    cases opened b with
    | nan n2 h2 hr2 hf2 =>
      obtain ⟨s, t, hr2⟩ := hr2
      have hv : datV ((Ieee.single.read (sgl a)).product (Ieee.single.read (sgl b))) = 2143289344 := by rw [hr, hr2]; rfl
      rw [hv]; exact FMulS.any_nan a b 0 n1 n2 0 m1 e1 rfl (open_calls hf) (open_calls hf2) w
    | inf n2 ha2 hs2 hr2 hf2 =>
      by_cases z : m1 = 0
      · subst z
        have hv : datV ((Ieee.single.read (sgl a)).product (Ieee.single.read (sgl b))) = 2143289344 := by rw [hr, hr2]; rfl
        rw [hv]; exact FMulS.nought_inf a b 0 n1 n2 e1 (open_calls hf) (open_calls hf2) w
      · have hv : datV ((Ieee.single.read (sgl a)).product (Ieee.single.read (sgl b))) = ((sgn (n1 != n2) + 2139095040 : Nat) : Int) := by
          rw [hr, hr2, ← xor_ne]
          show datV (if m1 = 0 then none else some (.infinity (n2 ^^ n1))) = _
          rw [if_neg z, Bool.xor_comm]; exact datV_inf _
        rw [hv]; exact FMulS.num_inf a b _ n1 n2 m1 e1 (by rw [beq_eq_false_iff_ne]; omega) (inf_calls _) (open_calls hf) (open_calls hf2) w
    | num n2 m2 e2 h1 h2 h3 h4 ha2 hs2 hr2 hf2 =>
      have hv : datV ((Ieee.single.read (sgl a)).product (Ieee.single.read (sgl b))) = ((sgn (n1 != n2) + putR (m1 * m2) (e1 + e2) false : Nat) : Int) := by rw [hr, hr2, ← xor_ne]; exact datV_num _ _ _
      have hp : m1 * m2 < 4611686018427387904 := by
        have h := Nat.mul_le_mul (show m1 ≤ 16777216 by omega) (show m2 ≤ 16777216 by omega)
        omega
      rw [hv]
      refine FMulS.num_num a b _ n1 n2 m1 e1 m2 e2 ?_ (open_calls hf) (open_calls hf2) w
      intro w
      rw [wid (x := e1 + e2) (by omega) (by omega), show (m1 : Int) * (m2 : Int) = ((m1 * m2 : Nat) : Int) by rw [Int.natCast_mul], wid (by omega) (by omega)]
      exact put_calls (n1 != n2) (m1 * m2) (e1 + e2) false hp (by omega) w
theorem mul_eq (a b : Int) : datV ((Ieee.single.read (sgl a)).product (Ieee.single.read (sgl b))) = opV .mul a b := (opV_of rfl).symm
def lawV (a b : Int) : Int := opV .mul a b
theorem lawS (a b : Int) (w : World) : Calls Try.prog 13 #[.int .i64 a, .int .i64 b] w fun e w' => e = .returned (.int .i64 (lawV a b)) ∧ Below w.heap.size w w' := by
  have h := mulS_calls a b w
  rw [mul_eq] at h
  exact h
theorem lawI (a b : Int) (w : World) : Calls Try.prog 14 #[.int .i64 a, .int .i64 b] w fun e w' => e = .returned (.int .i64 (lawV a b)) ∧ Below w.heap.size w w' := mul_calls a b w
set_option maxRecDepth 100000 in
set_option maxHeartbeats 4000000 in
theorem laws_FnExactFMul.calls (a0 : Int) (a1 : Int) (r : Bool) (w : World) (h : r = true) :
    Calls Try.prog 4 #[.int .i64 a0, .int .i64 a1] w fun e w' => e = .returned (.bool r) ∧ Below w.heap.size w w' := by
  subst h
  have hS := lawS a0 a1
  have hI := lawI a0 a1
  generalize lawV a0 a1 = v at hS hI
  go_enter Try.func4, Try.ntmps4
  go_wp2_with fail
  refine (hS _).mono ?_
  rintro e w1 ⟨rfl, b1⟩
  go_wp2_with fail
  refine (hI _).mono ?_
  rintro e w2 ⟨rfl, b2⟩
  go_wp2_with fail
  go_ret
  exact ⟨rfl, below_step b1 b2⟩
end Go.Proofs.Ytconefdllomgbaa.PFnExactFMul
namespace Go.Proofs.Ytconefdllomgbaa.Pure
set_option linter.unusedVariables false in
theorem FnExactFMul (a0 a1 : Int) (w0 : (Lit.int .i64 a0).wf = true) (w1 : (Lit.int .i64 a1).wf = true) : true = true := rfl
end Go.Proofs.Ytconefdllomgbaa.Pure
