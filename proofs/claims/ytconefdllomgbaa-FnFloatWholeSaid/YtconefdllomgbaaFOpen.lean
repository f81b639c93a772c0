/- Floats taken apart: what l2Open tells is what IEEE 754's reading tells. No condition. -/
import Derived.Test.YtconefdllomgbaaPFnExactFMulx1
import Derived.Test.YtconefdllomgbaaFPlain
import Derived.Test.YtconefdllomgbaaFWalk
namespace Go.Proofs.Ytconefdllomgbaa.FOpen
open Go.RowKit Go.Proofs.Ytconefdllomgbaa.PFnExactFMul Go.Proofs.Ytconefdllomgbaa.Aid Go.Proofs.Ytconefdllomgbaa.FPlain Go.Proofs.Ytconefdllomgbaa.FWalk
set_option linter.unusedVariables false
set_option linter.unusedSimpArgs false
/-- A float is no number, an infinity, or a number. -/
inductive Opened (a : Int) : Prop
  | nan (n : Bool) (h : isNaN (sgl a) = true) (hr : ∃ s t, Ieee.single.read (sgl a) = .nan s t) (hf : spec_l2Open.f 2 a = some (2, n, 0, 0))
  | inf (n : Bool) (ha : a = ((sgn n + 2139095040 : Nat) : Int)) (hs : sgl a = sgn n + 2139095040) (hr : Ieee.single.read (sgl a) = .infinity n) (hf : spec_l2Open.f 2 a = some (1, n, 0, 0))
  | num (n : Bool) (m : Nat) (e : Int) (h1 : m < 16777216) (h2 : -149 ≤ e) (h3 : e ≤ 104) (h4 : -149 < e → 8388608 ≤ m) (ha : a = (sgn n : Int) + (e + 149) * 8388608 + m) (hs : sgl a = a.toNat)
      (hr : Ieee.single.read (sgl a) = .number n m e) (hf : spec_l2Open.f 2 a = some (0, n, (m : Int), e))
theorem read_eq (b : Nat) : Ieee.single.read b =
    (if b % 2147483648 < 8388608 then .number (b / 2147483648 % 2 == 1) (b % 2147483648) (-149)
     else if b % 2147483648 < 2139095040 then .number (b / 2147483648 % 2 == 1) (8388608 + b % 2147483648 % 8388608) (-149 + (b % 2147483648 / 8388608 - 1 : Nat))
     else if b % 2147483648 = 2139095040 then .infinity (b / 2147483648 % 2 == 1) else .nan (b / 2147483648 % 2 == 1) (b % 2147483648 - 2139095040)) := rfl
theorem nan_of {b : Nat} {s : Bool} {t : Nat} (h : Ieee.single.read b = .nan s t) : isNaN b = true := by
  show (Ieee.single.read b).isNaN = true
  rw [h]; rfl
theorem opened (a : Int) : Opened a := by
  by_cases c : a < 0 ∨ a > 4294967295
  · have e : sgl a = 2143289344 := by unfold sgl; rw [if_pos c]
    have hr : Ieee.single.read (sgl a) = .nan false 4194304 := by rw [e, read_eq]; rfl
    refine .nan false (nan_of hr) ⟨_, _, hr⟩ ?_
    unfold spec_l2Open.f
    by_cases c1 : a < 0
    · rw [if_pos c1]; simp [spec_l2Open.j0]
    · rw [if_neg c1, decide_eq_true (by omega)]; simp [spec_l2Open.j0]
  · obtain ⟨b, rfl⟩ : ∃ b : Nat, a = b := ⟨a.toNat, by omega⟩
    have hb : b < 4294967296 := by omega
    have e : sgl b = b := by unfold sgl; rw [if_neg c]; omega
    have k1 : Go.bits .and .i64 ((b : Int) / 8388608) 255 = ((b / 8388608 % 256 : Nat) : Int) := by
      have := and_low 8 (by decide) ((b : Int) / 8388608)
      rw [show ((2 : Int) ^ 8 - 1) = 255 by decide, show ((2 : Int) ^ 8) = 256 by decide] at this
      rw [this]; omega
    have k2 : Go.bits .and .i64 (b : Int) 8388607 = ((b % 8388608 : Nat) : Int) := by
      have := and_low 23 (by decide) (b : Int)
      rw [show ((2 : Int) ^ 23 - 1) = 8388607 by decide, show ((2 : Int) ^ 23) = 8388608 by decide] at this
      rw [this]; omega
    have hn : ∃ n : Bool, ((b : Int) / 2147483648 == 1) = n ∧ (b / 2147483648 % 2 == 1) = n ∧ b / 2147483648 * 2147483648 = sgn n := by
      rcases (show b / 2147483648 = 0 ∨ b / 2147483648 = 1 by omega) with h | h
      · exact ⟨false, by rw [beq_eq_false_iff_ne]; omega, by rw [h]; rfl, by rw [h]; rfl⟩
      · exact ⟨true, by rw [beq_iff_eq]; omega, by rw [h]; rfl, by rw [h]; rfl⟩
    obtain ⟨n, n1, n2, n3⟩ := hn
    have hd : b = sgn n + b % 2147483648 := by omega
    have hx : spec_l2Open.f 2 (b : Int) = (if ((b / 8388608 % 256 : Nat) : Int) = 255 then (if (((b % 8388608 : Nat) : Int) != 0) = true then some (2, n, 0, 0) else some (1, n, 0, 0)) else if ((b / 8388608 % 256 : Nat) : Int) = 0 then some (0, n, ((b % 8388608 : Nat) : Int), -149) else some (0, n, wrap64 (((b % 8388608 : Nat) : Int) + 8388608), wrap64 (((b / 8388608 % 256 : Nat) : Int) - 150))) := by
      unfold spec_l2Open.f
      rw [if_neg (by omega), decide_eq_false (by omega)]
      simp only [spec_l2Open.j0, spec_l2Open.j1, k1, k2, n1]
      rw [if_neg (by decide)]
      split
      · rfl
      · rw [if_neg (by decide)]
    have hq : b / 8388608 % 256 = b % 2147483648 / 8388608 := by omega
    have hm : b % 8388608 = b % 2147483648 % 8388608 := by omega
    have hre := read_eq b
    rw [n2] at hre
    rw [← e] at hre
    rw [e] at hre
    generalize hc : b % 2147483648 = c at *
    have hcl : c < 2147483648 := by omega
    by_cases c1 : c < 8388608
    · rw [if_pos c1] at hre
      refine .num n c (-149) (by omega) (by omega) (by omega) (by omega) (by omega) (by rw [e]; omega) (by rw [e]; exact hre) ?_
      rw [hx, if_neg (by omega), if_pos (by omega)]
      congr 4; omega
    · rw [if_neg c1] at hre
      by_cases c2 : c < 2139095040
      · rw [if_pos c2] at hre
        refine .num n (8388608 + c % 8388608) (-149 + (c / 8388608 - 1 : Nat)) (by omega) (by omega) (by omega) (by omega) (by omega) (by rw [e]; omega) (by rw [e]; exact hre) ?_
        rw [hx, if_neg (by omega), if_neg (by omega), wid (by omega) (by omega), wid (by omega) (by omega)]
        congr 4 <;> omega
      · rw [if_neg c2] at hre
        by_cases c3 : c = 2139095040
        · rw [if_pos c3] at hre
          refine .inf n (by omega) (by rw [e]; omega) (by rw [e]; exact hre) ?_
          rw [hx, if_pos (by omega), if_neg (by simp; omega)]
        · rw [if_neg c3] at hre
          refine .nan n (by rw [e]; exact nan_of hre) ⟨_, _, by rw [e]; exact hre⟩ ?_
          rw [hx, if_pos (by omega), if_pos (by simp; omega)]
end Go.Proofs.Ytconefdllomgbaa.FOpen
