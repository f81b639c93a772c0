/- Plain lemmas on Go's int arithmetic as the print spells it: bounds of an int, wrap64 within bounds, the truncated quotient and rest. No condition. -/
import Derived.RowKit
import Derived.RowKit3
import Derived.Laws.BitsLemmas
namespace Go.Proofs.Ytkbbgjoohffooaa.Aid
open Go.RowKit

theorem wf_lo {a : Int} (h : (Lit.int .i64 a).wf = true) : -9223372036854775808 ≤ a := by
  have h' : IntKind.i64.min ≤ a ∧ a ≤ IntKind.i64.max := by simpa [Lit.wf] using h
  exact h'.1
theorem wf_hi {a : Int} (h : (Lit.int .i64 a).wf = true) : a ≤ 9223372036854775807 := by
  have h' : IntKind.i64.min ≤ a ∧ a ≤ IntKind.i64.max := by simpa [Lit.wf] using h
  exact h'.2
theorem wid {x : Int} (h1 : -9223372036854775808 ≤ x) (h2 : x ≤ 9223372036854775807) : wrap64 x = x := by
  unfold wrap64; omega
theorem tmod_nn {a b : Int} (h : 0 ≤ a) : Int.tmod a b = a % b := Int.tmod_eq_emod_of_nonneg h
theorem tdiv_nn {a b : Int} (h : 0 ≤ a) : Int.tdiv a b = a / b := Int.tdiv_eq_ediv_of_nonneg h
/-- Go's rest made not negative is the rest. -/
theorem tmod_fix (a b : Int) (hb : 0 < b) : (if Int.tmod a b < 0 then Int.tmod a b + b else Int.tmod a b) = a % b := by
  have h1 := Int.emod_nonneg a (by omega : b ≠ 0)
  have h2 := Int.emod_lt_of_pos a hb
  rw [Int.tmod_eq_emod]
  by_cases h : 0 ≤ a ∨ b ∣ a
  · rw [if_pos h]; simp only [Int.natCast_zero, Int.sub_zero]
    rw [if_neg (by omega)]
  · rw [if_neg h]
    have : (b.natAbs : Int) = b := by omega
    rw [this, if_pos (by omega)]; omega
theorem tmod_bd (a b : Int) (hb : 0 < b) : -b < Int.tmod a b ∧ Int.tmod a b < b := by
  have h1 := Int.emod_nonneg a (by omega : b ≠ 0)
  have h2 := Int.emod_lt_of_pos a hb
  rw [Int.tmod_eq_emod]
  by_cases h : 0 ≤ a ∨ b ∣ a
  · rw [if_pos h]; simp only [Int.natCast_zero, Int.sub_zero]; omega
  · rw [if_neg h]
    have e : (b.natAbs : Int) = b := by omega
    have : a % b ≠ 0 := fun c => h (.inr (Int.dvd_of_emod_eq_zero c))
    rw [e]; omega
/-- Go's quotient, brought down where the rest was below 0, is the quotient rounded down. -/
theorem tdiv_fix (a b : Int) (hb : 0 < b) : (if Int.tmod a b < 0 then Int.tdiv a b - 1 else Int.tdiv a b) = a / b := by
  have e := Int.mul_tdiv_add_tmod a b
  have e2 := Int.mul_ediv_add_emod a b
  have h3 := tmod_fix a b hb
  by_cases h : Int.tmod a b < 0
  · rw [if_pos h] at h3 ⊢
    have : b * (Int.tdiv a b - 1) = b * (a / b) := by rw [Int.mul_sub]; omega
    exact Int.eq_of_mul_eq_mul_left (by omega) this
  · rw [if_neg h] at h3 ⊢
    have : b * (Int.tdiv a b) = b * (a / b) := by omega
    exact Int.eq_of_mul_eq_mul_left (by omega) this
theorem i64_wrap_nn (n : Int) (h0 : 0 ≤ n) (h : n < 2 ^ 63) : IntKind.i64.wrap n = n := by
  have : n < 9223372036854775808 := h
  simp [IntKind.wrap, IntKind.bits, IntKind.signed]; omega
theorem i64_wrap_id (n : Int) (h0 : -9223372036854775808 ≤ n) (h : n ≤ 9223372036854775807) : IntKind.i64.wrap n = n := by
  simp [IntKind.wrap, IntKind.bits, IntKind.signed]; omega
theorem u64_wrap_id (n : Int) (h0 : 0 ≤ n) (h : n ≤ 9223372036854775807) : IntKind.u64.wrap n = n := by
  simp [IntKind.wrap, IntKind.bits, IntKind.signed]; omega
/-- A mask of the lowest bits gives the rest, of numbers below 0 too. -/
theorem and_low (i : Nat) (hi : i ≤ 62) (x : Int) : Go.bits .and .i64 x (2 ^ i - 1) = x % 2 ^ i := by
  have hpos : 0 < 2 ^ i := Nat.two_pow_pos i
  have hlt : 2 ^ i ≤ 2 ^ 62 := Nat.pow_le_pow_right (by decide) hi
  have hc : ((2 : Int) ^ i - 1) = ((2 ^ i - 1 : Nat) : Int) := by rw [Int.natCast_sub hpos]; simp
  have hm : ((2 ^ i - 1 : Nat)) % 2 ^ 64 = 2 ^ i - 1 := Nat.mod_eq_of_lt (by omega)
  have e : ((BitVec.ofInt 64 x &&& BitVec.ofInt 64 ((2 ^ i - 1 : Nat) : Int)).toNat : Int) = x % 2 ^ i := by
    rw [BitVec.toNat_and, BitVec.ofInt_natCast, BitVec.toNat_ofNat, hm, Nat.and_two_pow_sub_one_eq_mod, BitVec.toNat_ofInt]
    have h0 := Int.emod_nonneg x (show ((2 ^ 64 : Nat) : Int) ≠ 0 by decide)
    rw [Int.natCast_emod, Int.toNat_of_nonneg h0, Int.natCast_pow]
    refine Int.emod_emod_of_dvd x ?_
    exact ⟨2 ^ (64 - i), by rw [Int.natCast_pow, show ((2 : Nat) : Int) = 2 from rfl, ← Int.pow_add]; congr 1; omega⟩
  have hb : 0 ≤ x % 2 ^ i := Int.emod_nonneg x (by have : (0 : Int) < 2 ^ i := Int.pow_pos (by decide); omega)
  have hb' : x % 2 ^ i < 2 ^ i := Int.emod_lt_of_pos x (Int.pow_pos (by decide))
  have hl2 : (2 : Int) ^ i ≤ 2 ^ 62 := by exact_mod_cast hlt
  show IntKind.i64.wrap ((BitVec.ofInt 64 x &&& BitVec.ofInt 64 (2 ^ i - 1)).toNat : Int) = _
  rw [hc, e, i64_wrap_nn _ hb (by have : (2 : Int) ^ 62 < 2 ^ 63 := by decide
                                  omega)]
theorem and_mask (x : Int) : Go.bits .and .i64 x 4294967295 = x % 4294967296 := and_low 32 (by decide) x
theorem and_one (x : Int) : Go.bits .and .i64 x 1 = x % 2 := and_low 1 (by decide) x
/-- The law's last test, when both answers are one. -/
theorem same_int (a b : Int) (h : a = b) : (if a = b then some true else some false) = some true := if_pos h
end Go.Proofs.Ytkbbgjoohffooaa.Aid
