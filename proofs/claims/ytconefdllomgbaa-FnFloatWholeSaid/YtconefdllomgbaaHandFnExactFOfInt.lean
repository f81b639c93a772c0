/- laws.FnExactFOfInt, walked: the statements' float of a whole number is IEEE 754's nearest. No condition. -/
import Derived.Test.YtconefdllomgbaaFSpec
import Derived.Test.YtconefdllomgbaaHandFnExactFDiv
namespace Go.Proofs.Ytconefdllomgbaa.PFnExactFOfInt
open Go.RowKit Go.Proofs.Ytconefdllomgbaa.Aid Go.Proofs.Ytconefdllomgbaa.FPlain Go.Proofs.Ytconefdllomgbaa.FWalk Go.Proofs.Ytconefdllomgbaa.FOpen Go.Proofs.Ytconefdllomgbaa.FClose Go.Proofs.Ytconefdllomgbaa.FSpec Go.Proofs.Ytconefdllomgbaa.PFnExactFDiv Go.Proofs.Ytconefdllomgbaa.PFnExactFMul Go.Proofs.YtconefdllomgbaaW.PrintWords Go.Proofs.YtconefdllomgbaaW.PrintLast Go.Proofs.YtconefdllomgbaaW.PrintMore
set_option linter.unusedVariables false
set_option linter.unusedSimpArgs false
/-- The loop that shifts to 40 bits. -/
def LO (n k : Nat) (x : Int) (more : Bool) (e : Int) : Prop := ∃ d : Nat, x = ((n / 2 ^ d : Nat) : Int) ∧ more = (n % 2 ^ d != 0) ∧ e = d ∧ n / 2 ^ d < 1099511627776 * 2 ^ k ∧ d + k ≤ 23 ∧ (d = 0 ∨ 16777216 ≤ n / 2 ^ d)
theorem LO_start (n : Nat) (h : n < 9223372036854775808) : LO n 23 n false 0 := by
  refine ⟨0, by rw [Nat.pow_zero, Nat.div_one], by rw [Nat.pow_zero, Nat.mod_one]; rfl, rfl, ?_, by omega, .inl rfl⟩
  have : (2 : Nat) ^ 23 = 8388608 := by decide
  rw [Nat.pow_zero, Nat.div_one, this]; omega
theorem sticky_step (n d : Nat) : (n % 2 ^ (d + 1) != 0) = ((n % 2 ^ d != 0) || (n / 2 ^ d % 2 == 1)) := by
  rw [Nat.mod_pow_succ]
  have hp := Nat.two_pow_pos d
  generalize n % 2 ^ d = u
  rcases (show n / 2 ^ d % 2 = 0 ∨ n / 2 ^ d % 2 = 1 by omega) with c | c
  · rw [c, Nat.mul_zero, Nat.add_zero]; simp
  · rw [c, Nat.mul_one]
    have : (u + 2 ^ d != 0) = true := by simp
    rw [this]; simp
theorem LO_step {n k : Nat} {x : Int} {more : Bool} {e : Int} (h : LO n k x more e) (hx : 1099511627776 ≤ x) :
    ∃ k', k = k' + 1 ∧ LO n k' (x / 2) (more || (Go.bits .and .i64 x 1 == 1)) (wrap64 (e + 1)) := by
  obtain ⟨d, rfl, rfl, rfl, h1, h2, h3⟩ := h
  have hk : k ≠ 0 := by
    intro z; subst z
    rw [Nat.pow_zero, Nat.mul_one] at h1; omega
  obtain ⟨k', rfl⟩ : ∃ k', k = k' + 1 := ⟨k - 1, by omega⟩
  have hd : n / 2 ^ (d + 1) = n / 2 ^ d / 2 := by rw [Nat.pow_succ, Nat.div_div_eq_div_mul]
  rw [Nat.pow_succ, ← Nat.mul_assoc] at h1
  refine ⟨k', rfl, d + 1, ?_, ?_, ?_, ?_, by omega, ?_⟩
  · rw [hd]; omega
  · rw [sticky_step, and_one]
    congr 1
    rw [Bool.eq_iff_iff, beq_iff_eq, beq_iff_eq]; omega
  · rw [wid (by omega) (by omega)]; omega
  · rw [hd]; omega
  · right; rw [hd]; omega
theorem putR_whole (n d : Nat) (h : d = 0 ∨ 16777216 ≤ n / 2 ^ d) : putR (n / 2 ^ d) d (n % 2 ^ d != 0) = putR n 0 false := by
  by_cases c : 16777216 ≤ n / 2 ^ d
  · have h1 : 16777216 ≤ n / 1 := by rw [Nat.div_one]; exact Nat.le_trans c (Nat.div_le_self _ _)
    have e1 := putR_quot n (2 ^ d) d (Nat.two_pow_pos d) c
    have e2 := putR_quot n 1 0 (by decide) h1
    have hb := bl_quot (n / 2 ^ d * 2 ^ d) (2 ^ d) 0 (Nat.two_pow_pos d)
    rw [Nat.div_one, Nat.mod_one] at e2
    have e3 : putR n 0 false = ratR n 1 0 := e2
    rw [e1, e3]
    have hbl : bl n = bl (n / 2 ^ d) + d := by
      have hq : 1 ≤ n / 2 ^ d := by omega
      obtain ⟨k, hk⟩ : ∃ k, bl (n / 2 ^ d) = k + 1 := ⟨bl (n / 2 ^ d) - 1, by have := bl_pos (n / 2 ^ d) (by omega); omega⟩
      have g1 := bl_le (n / 2 ^ d) (by omega)
      have g2 := bl_lt (n / 2 ^ d)
      rw [hk] at g1 g2 ⊢
      rw [Nat.add_sub_cancel] at g1
      rw [show k + 1 + d = (k + d) + 1 by omega]
      refine bl_eq ?_ ?_
      · rw [Nat.pow_add]; exact (Nat.le_div_iff_mul_le (Nat.two_pow_pos d)).1 g1
      · rw [show k + d + 1 = (k + 1) + d by omega, Nat.pow_add]; exact (Nat.div_lt_iff_lt_mul (Nat.two_pow_pos d)).1 g2
    have hl : lastOf (n / 2 ^ d) d = lastOf n 0 := by unfold lastOf; rw [hbl]; omega
    have hg := last_gt d c
    unfold ratR
    rw [Nat.div_one, hl, ← Nat.pow_add, Nat.one_mul]
    rw [hl] at hg
    rw [show d + (lastOf n 0 - (d : Int)).toNat = (lastOf n 0 - 0).toNat by omega]
  · rcases h with z | z
    · subst z
      rw [Nat.pow_zero, Nat.div_one, Nat.mod_one]; rfl
    · exact absurd z c
theorem putR_neg (n : Nat) : bitsV (floatOfInt .f32 (n : Int)) = ((putR n 0 false : Nat) : Int) := by
  have h := datV_num false n 0
  have e : floatOfInt .f32 (n : Int) = Ieee.single.write (.number false n 0) := by
    show Ieee.single.nearest (decide ((n : Int) < 0)) (n : Int).natAbs 0 = Ieee.single.nearest false n 0
    rw [decide_eq_false (by omega), Int.natAbs_natCast]
  rw [e]
  have : sgn false = 0 := rfl
  rw [this, Nat.zero_add] at h
  exact h
def lawV (n : Int) : Int := ofIntV n
theorem lawV_nn (n : Nat) : lawV n = ((putR n 0 false : Nat) : Int) := putR_neg n
theorem lawV_neg (n : Nat) (h : n ≠ 0) : lawV (-(n : Int)) = wrap64 (((putR n 0 false : Nat) : Int) + 2147483648) := by
  have e : floatOfInt .f32 (-(n : Int)) = Ieee.single.write (.number true n 0) := by
    show Ieee.single.nearest (decide (-(n : Int) < 0)) (-(n : Int)).natAbs 0 = Ieee.single.nearest true n 0
    rw [decide_eq_true (by omega), Int.natAbs_neg, Int.natAbs_natCast]
  have hd := datV_num true n 0
  have hp := putR_le n 0 false
  have hs : sgn true = 2147483648 := rfl
  unfold lawV ofIntV
  rw [e]
  refine hd.trans ?_
  rw [hs, wid (by omega) (by omega)]; omega
set_option maxRecDepth 100000 in
set_option maxHeartbeats 4000000 in
theorem ofInt_nn (n : Nat) (hn : n < 9223372036854775808) (w : World) : Calls Try.prog 21 #[.int .i64 (n : Int)] w fun e w' => e = .returned (.int .i64 (lawV n)) ∧ Drawn0 w w' := by
  have hS := Aside0.mk (LO_start n hn)
  have c1 : ((n : Int) == -9223372036854775808) = false := by rw [beq_eq_false_iff_ne]; omega
  have c2 : decide ((n : Int) < 0) = false := decide_eq_false (by omega)
  go_enter Try.func21, Try.ntmps21
  go_wp2
  go_loopg [0, 3, 4] 23 (fun kq v0 v3 v4 w' => ∃ (x0 : Int) (x3 : Bool) (x4 : Int), v0 = .int .i64 x0 ∧ v3 = .bool x3 ∧ v4 = .int .i64 x4 ∧ Aside0 (LO n kq x0 x3 x4) ∧ Drawn0 w w')
  case atStart => exact ⟨n, false, 0, rfl, rfl, rfl, hS, by repeat (first | exact Drawn0.refl _ | apply Drawn0.step)⟩
  case round =>
    obtain ⟨x0, x3, x4, rfl, rfl, rfl, HA, ⟨m1, rfl⟩⟩ := hrel
    by_cases c : 1099511627776 ≤ x0
    · obtain ⟨k', hk, h'⟩ := LO_step HA.out c
      have cb : decide (1099511627776 ≤ x0) = true := decide_eq_true c
      have HA' := Aside0.mk h'
      have HK := Aside0.mk hk
      clear c h' hk HA
      cases x3
      · rw [Bool.false_or] at HA'
        go_wp2
        go_roundg k'
        case measure => have := HK.out; omega
        case rel => exact ⟨_, _, _, rfl, rfl, rfl, HA', by repeat (first | exact Drawn0.refl _ | apply Drawn0.step)⟩
      · rw [Bool.true_or] at HA'
        go_wp2
        go_roundg k'
        case measure => have := HK.out; omega
        case rel => exact ⟨_, _, _, rfl, rfl, rfl, HA', by repeat (first | exact Drawn0.refl _ | apply Drawn0.step)⟩
    · have cb : decide (1099511627776 ≤ x0) = false := decide_eq_false c
      have hP : ∀ w, Calls Try.prog 29 #[.bool false, .int .i64 x0, .int .i64 x4, .bool x3] w fun e w' => e = .returned (.int .i64 (lawV n)) ∧ Drawn0 w w' := by
        obtain ⟨d, rfl, rfl, rfl, h1, h2, h3⟩ := HA.out
        intro w
        have := put_calls false (n / 2 ^ d) d (n % 2 ^ d != 0) (by omega) (by omega) w
        have hs : sgn false = 0 := rfl
        rw [putR_whole n d h3, hs, Nat.zero_add] at this
        rw [lawV_nn]; exact this
      clear c HA
      go_wp2_with fail
      refine (hP _).mono ?_
      rintro e w1 ⟨rfl, ⟨m2, rfl⟩⟩
      go_wp2_with fail
      go_ret
      exact ⟨rfl, by repeat (first | exact Drawn0.refl _ | apply Drawn0.step)⟩
set_option maxRecDepth 100000 in
set_option maxHeartbeats 4000000 in
theorem ofInt_neg (a v : Int) (c1 : (a == -9223372036854775808) = false) (c2 : decide (a < 0) = true) (hR : ∀ w, Calls Try.prog 21 #[.int .i64 (wrap64 (-a))] w fun e w' => e = .returned (.int .i64 v) ∧ Drawn0 w w') (w : World) :
    Calls Try.prog 21 #[.int .i64 a] w fun e w' => e = .returned (.int .i64 (wrap64 (v + 2147483648))) ∧ Drawn0 w w' := by
  go_enter Try.func21, Try.ntmps21
  go_wp2_with fail
  refine (hR _).mono ?_
  rintro e w1 ⟨rfl, ⟨m2, rfl⟩⟩
  go_wp2_with fail
  go_ret
  exact ⟨rfl, by repeat (first | exact Drawn0.refl _ | apply Drawn0.step)⟩
set_option maxRecDepth 100000 in
theorem ofInt_min (w : World) : Calls Try.prog 21 #[.int .i64 (-9223372036854775808)] w fun e w' => e = .returned (.int .i64 3741319168) ∧ Drawn0 w w' := by
  go_enter Try.func21, Try.ntmps21
  go_wp2_with fail
  go_ret
  exact ⟨rfl, by repeat (first | exact Drawn0.refl _ | apply Drawn0.step)⟩
theorem putR_min : putR 9223372036854775808 0 false = 1593835520 := by decide +kernel
theorem lawS (a : Int) (hw : (Lit.int .i64 a).wf = true) (w : World) : Calls Try.prog 21 #[.int .i64 a] w fun e w' => e = .returned (.int .i64 (lawV a)) ∧ Below w.heap.size w w' := by
  have h1 := wf_lo hw
  have h2 := wf_hi hw
  refine Calls.mono ?_ (fun e w' (h : e = .returned (.int .i64 (lawV a)) ∧ Drawn0 w w') => ⟨h.1, h.2.below⟩)
  rcases Int.lt_or_le a 0 with c | c
  · obtain ⟨n, rfl⟩ : ∃ n : Nat, a = -(n : Int) := ⟨a.natAbs, by omega⟩
    rw [lawV_neg n (by omega)]
    by_cases m : n = 9223372036854775808
    · subst m
      rw [putR_min, wid (by decide) (by decide)]
      exact ofInt_min w
    · have hr := ofInt_nn n (by omega)
      rw [lawV_nn] at hr
      refine ofInt_neg _ _ (by rw [beq_eq_false_iff_ne]; omega) (decide_eq_true c) (fun w => ?_) w
      rw [wid (x := - -(n : Int)) (by omega) (by omega), Int.neg_neg]
      exact hr w
  · obtain ⟨n, rfl⟩ : ∃ n : Nat, a = n := ⟨a.toNat, by omega⟩
    exact ofInt_nn n (by omega) w
theorem lawI (a : Int) (w : World) : Calls Try.prog 22 #[.int .i64 a] w fun e w' => e = .returned (.int .i64 (lawV a)) ∧ Below w.heap.size w w' := ofInt_calls a w
set_option maxRecDepth 100000 in
set_option maxHeartbeats 4000000 in
theorem laws_FnExactFOfInt.calls (a0 : Int) (r : Bool) (w : World) (h : r = true ∧ (Lit.int .i64 a0).wf = true) :
    Calls Try.prog 8 #[.int .i64 a0] w fun e w' => e = .returned (.bool r) ∧ Below w.heap.size w w' := by
  obtain ⟨rfl, hw⟩ := h
  have hS := lawS a0 hw
  have hI := lawI a0
  generalize lawV a0 = v at hS hI
  go_enter Try.func8, Try.ntmps8
  go_wp2_with fail
  refine (hS _).mono ?_
  rintro e w1 ⟨rfl, b1⟩
  go_wp2_with fail
  refine (hI _).mono ?_
  rintro e w2 ⟨rfl, b2⟩
  go_wp2_with fail
  go_ret
  exact ⟨rfl, below_step b1 b2⟩
end Go.Proofs.Ytconefdllomgbaa.PFnExactFOfInt
namespace Go.Proofs.Ytconefdllomgbaa.Pure
set_option linter.unusedVariables false in
theorem FnExactFOfInt (a0 : Int) (w0 : (Lit.int .i64 a0).wf = true) : true = true ∧ (Lit.int .i64 a0).wf = true := ⟨rfl, w0⟩
end Go.Proofs.Ytconefdllomgbaa.Pure
