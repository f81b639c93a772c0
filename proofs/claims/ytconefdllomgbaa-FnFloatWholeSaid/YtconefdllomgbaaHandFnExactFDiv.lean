/- laws.FnExactFDiv, walked: the statements' quotient is IEEE 754's. No condition. -/
import Derived.Test.YtconefdllomgbaaFSpec
import Derived.Test.YtconefdllomgbaaFDivS
namespace Go.Proofs.Ytconefdllomgbaa.PFnExactFDiv
open Go.RowKit Go.Proofs.Ytconefdllomgbaa.Aid Go.Proofs.Ytconefdllomgbaa.FPlain Go.Proofs.Ytconefdllomgbaa.FWalk Go.Proofs.Ytconefdllomgbaa.FOpen Go.Proofs.Ytconefdllomgbaa.FClose Go.Proofs.Ytconefdllomgbaa.FSpec Go.Proofs.Ytconefdllomgbaa.PFnExactFMul Go.Proofs.YtconefdllomgbaaW.PrintWords Go.Proofs.YtconefdllomgbaaW.PrintLast Go.Proofs.YtconefdllomgbaaW.PrintMore
set_option linter.unusedVariables false
set_option linter.unusedSimpArgs false
theorem xor_ne (a b : Bool) : (a ^^ b) = !(a == b) := by cases a <;> cases b <;> rfl
/-- The rung of a / b * 2 ^ e. -/
def ratR (a b : Nat) (e : Int) : Nat := min ((lastOf (a / b) e + 149).toNat * 8388608 + rneS a (b * 2 ^ (lastOf (a / b) e - e).toNat) false) 2139095040
theorem last_gt {q : Nat} (e : Int) (h : 16777216 ≤ q) : e + 1 ≤ lastOf q e := by
  have := lt_bl_of (m := q) (j := 24) (by have : (2 : Nat) ^ 24 = 16777216 := by decide
                                          omega)
  unfold lastOf; omega
theorem putR_quot (a b : Nat) (e : Int) (hb : 0 < b) (h : 16777216 ≤ a / b) : putR (a / b) e (a % b != 0) = ratR a b e := by
  have hl := last_gt e h
  obtain ⟨j, hj⟩ : ∃ j, (lastOf (a / b) e - e).toNat = j + 1 := ⟨(lastOf (a / b) e - e).toNat - 1, by omega⟩
  unfold putR ratR keptOf
  rw [if_neg (by omega), show (e - lastOf (a / b) e).toNat = 0 by omega, Nat.pow_zero, Nat.mul_one, hj, rneS_quot a b j hb]
theorem bl_eq {m k : Nat} (h1 : 2 ^ k ≤ m) (h2 : m < 2 ^ (k + 1)) : bl m = k + 1 := by
  have a := lt_bl_of h1
  have b := bl_le_of h2
  omega
theorem bl_quot (a b d : Nat) (hb : 0 < b) (h : 1 ≤ a / b) : bl (a * 2 ^ d / b) = bl (a / b) + d := by
  have hp := bl_pos (a / b) (by omega)
  obtain ⟨k, hk⟩ : ∃ k, bl (a / b) = k + 1 := ⟨bl (a / b) - 1, by omega⟩
  have h1 := bl_le (a / b) (by omega)
  have h2 := bl_lt (a / b)
  rw [hk] at h1 h2 ⊢
  rw [Nat.add_sub_cancel] at h1
  have g1 : 2 ^ k * b ≤ a := (Nat.le_div_iff_mul_le hb).1 h1
  have g2 : a < b * 2 ^ (k + 1) := by
    have := (Nat.div_lt_iff_lt_mul hb).1 h2
    rwa [Nat.mul_comm] at this
  rw [show k + 1 + d = (k + d) + 1 by omega]
  refine bl_eq ((Nat.le_div_iff_mul_le hb).2 ?_) ((Nat.div_lt_iff_lt_mul hb).2 ?_)
  · rw [Nat.pow_add, Nat.mul_right_comm]; exact Nat.mul_le_mul_right _ g1
  · rw [show k + d + 1 = (k + 1) + d by omega, Nat.pow_add, Nat.mul_right_comm, Nat.mul_comm (2 ^ (k + 1)) b]
    exact Nat.mul_lt_mul_of_pos_right g2 (Nat.two_pow_pos d)
theorem ratR_shift (a b d : Nat) (e : Int) (hb : 0 < b) (h : 16777216 ≤ a / b) : ratR (a * 2 ^ d) b (e - d) = ratR a b e := by
  have hbl := bl_quot a b d hb (by omega)
  have hl := last_gt e h
  have e1 : lastOf (a * 2 ^ d / b) (e - d) = lastOf (a / b) e := by
    unfold lastOf
    rw [hbl]; omega
  unfold ratR
  rw [e1, show (lastOf (a / b) e - (e - d)).toNat = (lastOf (a / b) e - e).toNat + d by omega, Nat.pow_add, ← Nat.mul_assoc,
    rneS_mul a (b * 2 ^ (lastOf (a / b) e - e).toNat) (2 ^ d) (Nat.two_pow_pos _) (Nat.mul_pos hb (Nat.two_pow_pos _)) false rfl]
/-- Two ways to fill up before the division. -/
theorem ratR_same (m n s t : Nat) (E : Int) (hn : 0 < n) (h1 : 16777216 ≤ m * 2 ^ s / n) (h2 : 16777216 ≤ m * 2 ^ t / n) : ratR (m * 2 ^ s) n (E - s) = ratR (m * 2 ^ t) n (E - t) := by
  rcases Nat.le_total s t with c | c
  · obtain ⟨d, rfl⟩ : ∃ d, t = s + d := ⟨t - s, by omega⟩
    rw [Nat.pow_add, ← Nat.mul_assoc, show E - ((s + d : Nat) : Int) = (E - s) - d by omega, ratR_shift _ _ _ _ hn h1]
  · obtain ⟨d, rfl⟩ : ∃ d, s = t + d := ⟨s - t, by omega⟩
    rw [Nat.pow_add, ← Nat.mul_assoc, show E - ((t + d : Nat) : Int) = (E - t) - d by omega, ratR_shift _ _ _ _ hn h2]
theorem putR_sticky (q : Nat) (e : Int) (s : Bool) (h : 16777216 ≤ q) : putR (2 * q + s.toNat) (e - 1) false = putR q e s := by
  have hs : s.toNat ≤ 1 := by cases s <;> decide
  have hb : bl (2 * q + s.toNat) = bl q + 1 := by
    rw [bl_half _ (by omega), show (2 * q + s.toNat) / 2 = q by omega]
  have hl : lastOf (2 * q + s.toNat) (e - 1) = lastOf q e := by unfold lastOf; rw [hb]; omega
  have hg := last_gt e h
  obtain ⟨j, hj⟩ : ∃ j, (lastOf q e - e).toNat = j + 1 := ⟨(lastOf q e - e).toNat - 1, by omega⟩
  unfold putR keptOf
  rw [if_neg (by omega), if_neg (by omega), hl, show (e - 1 - lastOf q e).toNat = 0 by omega, show (e - lastOf q e).toNat = 0 by omega,
    show (lastOf q e - (e - 1)).toNat = j + 2 by omega, hj, Nat.pow_zero, Nat.mul_one, Nat.mul_one, rneS_half, show (2 * q + s.toNat) / 2 = q by omega, Bool.false_or]
  have : ((2 * q + s.toNat) % 2 == 1) = s := by
    cases s
    · show ((2 * q + 0) % 2 == 1) = false
      rw [beq_eq_false_iff_ne]; omega
    · show ((2 * q + 1) % 2 == 1) = true
      rw [beq_iff_eq]; omega
  rw [this]
/-- IEEE's quotient. -/
theorem ieee_quot (n1 n2 : Bool) (m n : Nat) (i j : Int) (hm : m ≠ 0) (hn : n ≠ 0) (hml : m < 16777216) : ∃ t : Nat, 16777216 ≤ m * 2 ^ t / n ∧
    datV ((Ieee.Datum.number n1 m i).quotient 25 (.number n2 n j)) = ((sgn (!(n1 == n2)) + ratR (m * 2 ^ t) n (i - j - t) : Nat) : Int) := by
  have hlm := Nat.log2_self_le hm
  have hln := lt_pow_log n
  have hl23 : m.log2 < 24 := (Nat.log2_lt hm).2 (Nat.lt_of_lt_of_eq hml (by decide))
  refine ⟨25 + n.log2 - m.log2, ?_, ?_⟩
  · refine (Nat.le_div_iff_mul_le (by omega)).2 ?_
    have h1 : 2 ^ m.log2 * 2 ^ (25 + n.log2 - m.log2) ≤ m * 2 ^ (25 + n.log2 - m.log2) := Nat.mul_le_mul_right _ hlm
    rw [← Nat.pow_add, show m.log2 + (25 + n.log2 - m.log2) = 24 + (n.log2 + 1) by omega, Nat.pow_add] at h1
    have h2 : (2 : Nat) ^ 24 = 16777216 := by decide
    rw [h2] at h1
    exact Nat.le_trans (Nat.mul_le_mul_left _ (by omega)) h1
  · have hq : 16777216 ≤ m * 2 ^ (25 + n.log2 - m.log2) / n := by
      refine (Nat.le_div_iff_mul_le (by omega)).2 ?_
      have h1 : 2 ^ m.log2 * 2 ^ (25 + n.log2 - m.log2) ≤ m * 2 ^ (25 + n.log2 - m.log2) := Nat.mul_le_mul_right _ hlm
      rw [← Nat.pow_add, show m.log2 + (25 + n.log2 - m.log2) = 24 + (n.log2 + 1) by omega, Nat.pow_add] at h1
      have h2 : (2 : Nat) ^ 24 = 16777216 := by decide
      rw [h2] at h1
      exact Nat.le_trans (Nat.mul_le_mul_left _ (by omega)) h1
    have e1 : (Ieee.Datum.number n1 m i).quotient 25 (.number n2 n j) = some (.number (n1 ^^ n2) (2 * (m * 2 ^ (25 + n.log2 - m.log2) / n) + (m * 2 ^ (25 + n.log2 - m.log2) % n != 0).toNat) (i - j - (25 + n.log2 - m.log2 : Nat) - 1)) := by
      show (if n = 0 then _ else _) = _
      rw [if_neg hn]
      simp only [Nat.shiftLeft_eq]
    rw [e1, datV_num, putR_sticky _ _ _ hq, putR_quot _ _ _ (by omega) hq, xor_ne]
/-- What the statements put. -/
theorem putQ {m n : Nat} {n1 n2 : Bool} {i j : Int} (hm : m < 16777216) (hi : -149 ≤ i ∧ i ≤ 104) (hj : -149 ≤ j ∧ j ≤ 104) (hn : n ≠ 0) (hn' : n < 16777216) (x y : Int) (hF : FDivS.Full m i x y) (w : World) :
    Calls Try.prog 29 #[.bool (!(n1 == n2)), .int .i64 (IntKind.i64.wrap (Int.tdiv (wrap64 (x * 137438953472)) (n : Int))), .int .i64 (IntKind.i64.wrap (IntKind.i64.wrap (y - 37) - j)), .bool (Int.tmod (wrap64 (x * 137438953472)) (n : Int) != 0)] w
      fun e w' => e = .returned (.int .i64 (datV ((Ieee.Datum.number n1 m i).quotient 25 (.number n2 n j)))) ∧ Drawn0 w w' := by
  obtain ⟨d, rfl, rfl, h1, h2, h3⟩ := hF
  have hX : ((m * 2 ^ d : Nat) : Int) * 137438953472 = ((m * 2 ^ d * 137438953472 : Nat) : Int) := by omega
  have hq : m * 2 ^ d * 137438953472 / n ≤ m * 2 ^ d * 137438953472 := Nat.div_le_self _ _
  have e1 : Int.tdiv ((m * 2 ^ d * 137438953472 : Nat) : Int) (n : Int) = ((m * 2 ^ d * 137438953472 / n : Nat) : Int) := by rw [tdiv_nn (by omega), ← Int.natCast_ediv]
  have e2 : Int.tmod ((m * 2 ^ d * 137438953472 : Nat) : Int) (n : Int) = ((m * 2 ^ d * 137438953472 % n : Nat) : Int) := by rw [tmod_nn (by omega), ← Int.natCast_emod]
  have e3 : (((m * 2 ^ d * 137438953472 % n : Nat) : Int) != 0) = (m * 2 ^ d * 137438953472 % n != 0) := by
    generalize m * 2 ^ d * 137438953472 % n = u
    cases u with
    | zero => rfl
    | succ u => simp; omega
  have b1 : m * 2 ^ d * 137438953472 < 2305843009213693952 := by omega
  have b2 : m * 2 ^ d * 137438953472 / n < 2305843009213693952 := by omega
  have hput := put_calls (!(n1 == n2)) (m * 2 ^ d * 137438953472 / n) (i - d - 37 - j) (m * 2 ^ d * 137438953472 % n != 0) (by omega) (by omega) w
  rw [hX, wid (x := ((m * 2 ^ d * 137438953472 : Nat) : Int)) (by omega) (by omega), e1, e2, e3, i64_wrap_id ((m * 2 ^ d * 137438953472 / n : Nat) : Int) (by exact Int.le_trans (by decide) (Int.natCast_nonneg _)) (by omega), i64_wrap_id (i - d - 37) (by omega) (by omega), i64_wrap_id (i - d - 37 - j) (by omega) (by omega)]
  have hv : datV ((Ieee.Datum.number n1 m i).quotient 25 (.number n2 n j)) = ((sgn (!(n1 == n2)) + putR (m * 2 ^ d * 137438953472 / n) (i - d - 37 - j) (m * 2 ^ d * 137438953472 % n != 0) : Nat) : Int) := by
    by_cases z : m = 0
    · subst z
      have q1 : (Ieee.Datum.number n1 0 i).quotient 25 (.number n2 n j) = some (.number (n1 ^^ n2) 0 (i - j - (25 + n.log2 - Nat.log2 0 : Nat) - 1)) := by
        show (if n = 0 then _ else _) = _
        rw [if_neg hn]
        simp only [Nat.shiftLeft_eq, Nat.zero_mul, Nat.zero_div, Nat.zero_mod]
        rfl
      have p0 : ∀ e b, putR 0 e b = 0 := fun _ _ => if_pos rfl
      rw [q1, datV_num, xor_ne, Nat.zero_mul, Nat.zero_mul, Nat.zero_div, p0, p0]
    · obtain ⟨t, ht, hv⟩ := ieee_quot n1 n2 m n i j z hn hm
      have hp : m * 2 ^ d * 137438953472 = m * 2 ^ (d + 37) := by
        rw [Nat.pow_add, ← Nat.mul_assoc]
      have hge : 16777216 ≤ m * 2 ^ (d + 37) / n := by
        refine (Nat.le_div_iff_mul_le (by omega)).2 ?_
        rw [← hp]
        omega
      rw [hv, hp, putR_quot _ _ _ (by omega) hge, show i - d - 37 - j = i - j - ((d + 37 : Nat) : Int) by omega, ratR_same m n t (d + 37) (i - j) (by omega) ht hge]
  rw [hv]
  exact hput
def lawV (a b : Int) : Int := datV ((Ieee.single.read (sgl a)).quotient 25 (Ieee.single.read (sgl b)))
theorem lawS (a b : Int) (w : World) : Calls Try.prog 15 #[.int .i64 a, .int .i64 b] w fun e w' => e = .returned (.int .i64 (lawV a b)) ∧ Below w.heap.size w w' := by
  cases opened a with
  | nan n1 h hr hf =>
    obtain ⟨s, t, hr⟩ := hr
    have hv : lawV a b = 2143289344 := by unfold lawV; rw [hr]; rfl
    rw [hv]
    cases opened b with
    | nan n2 h2 hr2 hf2 => exact FDivS.nan_any a b 0 n1 n2 2 0 0 (open_calls hf) (open_calls hf2) w
    | inf n2 ha2 hs2 hr2 hf2 => exact FDivS.nan_any a b 0 n1 n2 1 0 0 (open_calls hf) (open_calls hf2) w
    | num n2 m2 e2 h1 h2 h3 h4 ha2 hs2 hr2 hf2 => exact FDivS.nan_any a b 0 n1 n2 0 m2 e2 (open_calls hf) (open_calls hf2) w
  | inf n1 ha hs hr hf =>
    cases opened b with
    | nan n2 h2 hr2 hf2 =>
      obtain ⟨s, t, hr2⟩ := hr2
      have hv : lawV a b = 2143289344 := by unfold lawV; rw [hr, hr2]; rfl
      rw [hv]; exact FDivS.any_nan a b 0 n1 n2 1 0 0 rfl (open_calls hf) (open_calls hf2) w
    | inf n2 ha2 hs2 hr2 hf2 =>
      have hv : lawV a b = 2143289344 := by unfold lawV; rw [hr, hr2]; rfl
      rw [hv]; exact FDivS.inf_inf a b 0 n1 n2 (open_calls hf) (open_calls hf2) w
    | num n2 m2 e2 h1 h2 h3 h4 ha2 hs2 hr2 hf2 =>
      have hv : lawV a b = ((sgn (!(n1 == n2)) + 2139095040 : Nat) : Int) := by unfold lawV; rw [hr, hr2, ← xor_ne]; exact datV_inf _
      rw [hv]; exact FDivS.inf_num a b _ n1 n2 m2 e2 (inf_calls _) (open_calls hf) (open_calls hf2) w
  | num n1 m1 e1 g1 g2 g3 g4 ha hs hr hf =>
    cases opened b with
    | nan n2 h2 hr2 hf2 =>
      obtain ⟨s, t, hr2⟩ := hr2
      have hv : lawV a b = 2143289344 := by unfold lawV; rw [hr, hr2]; rfl
      rw [hv]; exact FDivS.any_nan a b 0 n1 n2 0 m1 e1 rfl (open_calls hf) (open_calls hf2) w
    | inf n2 ha2 hs2 hr2 hf2 =>
      have hv : lawV a b = wrap64 ((if (!(n1 == n2)) then 1 else 0) * 2147483648) := by
        unfold lawV; rw [hr, hr2]
        show datV (some (.number (n1 ^^ n2) 0 0)) = _
        rw [datV_num, xor_ne]
        cases (!(n1 == n2))
        · rw [if_neg (by decide), wid (by decide) (by decide)]; rfl
        · rw [if_pos rfl, wid (by decide) (by decide)]; rfl
      rw [hv]; exact FDivS.num_inf a b _ n1 n2 m1 e1 (sign_calls _) (open_calls hf) (open_calls hf2) w
    | num n2 m2 e2 h1 h2 h3 h4 ha2 hs2 hr2 hf2 =>
      by_cases z : m2 = 0
      · subst z
        by_cases z1 : m1 = 0
        · subst z1
          have hv : lawV a b = 2143289344 := by unfold lawV; rw [hr, hr2]; rfl
          rw [hv]; exact FDivS.nought_nought a b 0 n1 n2 e1 e2 (open_calls hf) (open_calls hf2) w
        · have hv : lawV a b = ((sgn (!(n1 == n2)) + 2139095040 : Nat) : Int) := by
            unfold lawV; rw [hr, hr2, ← xor_ne, ← datV_inf]
            unfold Ieee.Datum.quotient; simp [z1]
          rw [hv]; exact FDivS.num_nought a b _ n1 n2 m1 e1 e2 (by rw [beq_eq_false_iff_ne]; omega) (inf_calls _) (open_calls hf) (open_calls hf2) w
      · have hv : lawV a b = datV ((Ieee.Datum.number n1 m1 e1).quotient 25 (.number n2 m2 e2)) := by unfold lawV; rw [hr, hr2]
        rw [hv]
        have hP := fun x y hF w => putQ (n1 := n1) (n2 := n2) (m := m1) (n := m2) (i := e1) (j := e2) g1 ⟨g2, g3⟩ ⟨h2, h3⟩ z h1 x y hF w
        by_cases z1 : m1 = 0
        · subst z1
          exact FDivS.nought_num a b _ n1 n2 e1 m2 e2 ⟨g2, g3⟩ (by rw [beq_eq_false_iff_ne]; omega) (by omega) hP (open_calls hf) (open_calls hf2) w
        · exact FDivS.num_num a b _ n1 n2 m1 e1 m2 e2 g1 ⟨g2, g3⟩ (by rw [beq_eq_false_iff_ne]; omega) (by rw [beq_eq_false_iff_ne]; omega) (by omega) hP (open_calls hf) (open_calls hf2) w
theorem lawI (a b : Int) (w : World) : Calls Try.prog 16 #[.int .i64 a, .int .i64 b] w fun e w' => e = .returned (.int .i64 (lawV a b)) ∧ Below w.heap.size w w' := by
  have h : lawV a b = opV .quo a b := (opV_of rfl).symm
  rw [h]; exact div_calls a b w
set_option maxRecDepth 100000 in
set_option maxHeartbeats 4000000 in
theorem laws_FnExactFDiv.calls (a0 : Int) (a1 : Int) (r : Bool) (w : World) (h : r = true) :
    Calls Try.prog 5 #[.int .i64 a0, .int .i64 a1] w fun e w' => e = .returned (.bool r) ∧ Below w.heap.size w w' := by
  subst h
  have hS := lawS a0 a1
  have hI := lawI a0 a1
  generalize lawV a0 a1 = v at hS hI
  go_enter Try.func5, Try.ntmps5
  go_wp2_with fail
  refine (hS _).mono ?_
  rintro e w1 ⟨rfl, b1⟩
  go_wp2_with fail
  refine (hI _).mono ?_
  rintro e w2 ⟨rfl, b2⟩
  go_wp2_with fail
  go_ret
  exact ⟨rfl, below_step b1 b2⟩
end Go.Proofs.Ytconefdllomgbaa.PFnExactFDiv
namespace Go.Proofs.Ytconefdllomgbaa.Pure
set_option linter.unusedVariables false in
theorem FnExactFDiv (a0 a1 : Int) (w0 : (Lit.int .i64 a0).wf = true) (w1 : (Lit.int .i64 a1).wf = true) : true = true := rfl
end Go.Proofs.Ytconefdllomgbaa.Pure
