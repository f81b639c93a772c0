/- laws.FnExactRoot: the program's Root returns what the reference's Root returns, for every int. No condition. -/
import Derived.Test.YtnefaadcokniiaaPFnExactRootx1
import Derived.Test.YtnefaadcokniiaaAid
namespace Go.Proofs.Ytnefaadcokniiaa.Pure
open Go.RowKit Go.Proofs.Ytnefaadcokniiaa.PFnExactRoot Go.Proofs.YtnefaadcokniiaaW.PrintWords Go.Proofs.YtnefaadcokniiaaW.PrintLast Go.Proofs.Ytnefaadcokniiaa.Aid
set_option linter.unusedVariables false
set_option linter.unusedSimpArgs false
/-- r is the whole root of n. -/
def IsRoot (n r : Int) : Prop := 0 ≤ r ∧ r * r ≤ n ∧ n < (r + 1) * (r + 1)
theorem root_one {n a b : Int} (ha : IsRoot n a) (hb : IsRoot n b) : a = b := by
  obtain ⟨a0, a1, a2⟩ := ha
  obtain ⟨b0, b1, b2⟩ := hb
  rcases Int.lt_trichotomy a b with h | h | h
  · have := Int.mul_le_mul (show a + 1 ≤ b by omega) (show a + 1 ≤ b by omega) (by omega) b0
    omega
  · exact h
  · have := Int.mul_le_mul (show b + 1 ≤ a by omega) (show b + 1 ≤ a by omega) (by omega) a0
    omega
theorem sq_le {a b : Int} (h0 : 0 ≤ a) (h : a ≤ b) : a * a ≤ b * b := Int.mul_le_mul h h h0 (by omega)
theorem sRootLoop (n : Int) (hn : 0 ≤ n) (hn' : n ≤ 4611686018427387904) (d : Nat) : ∀ (k : Nat) (lo hi : Int), 0 ≤ lo → lo < hi → hi ≤ 2147483649 → lo * lo ≤ n → n < hi * hi → hi - lo ≤ 2 ^ d → d < k →
    ∃ r, spec_Root.l0 k n lo hi = some r ∧ IsRoot n r := by
  induction d with
  | zero =>
    intro k lo hi h0 hlh hhi h1 h2 h3 hk
    obtain ⟨k, rfl⟩ : ∃ m, k = m + 1 := ⟨k - 1, by omega⟩
    have e : hi = lo + 1 := by omega
    refine ⟨lo, ?_, h0, h1, by rw [← e]; exact h2⟩
    simp only [spec_Root.l0]
    rw [wid (x := hi - lo) (by omega) (by omega), if_neg (by omega)]
  | succ d ih =>
    intro k lo hi h0 hlh hhi h1 h2 h3 hk
    obtain ⟨k, rfl⟩ : ∃ m, k = m + 1 := ⟨k - 1, by omega⟩
    simp only [spec_Root.l0]
    rw [wid (x := hi - lo) (by omega) (by omega)]
    by_cases c : hi - lo > 1
    · rw [if_pos c, wid (x := lo + hi) (by omega) (by omega), tdiv_nn (by omega), wid (x := (lo + hi) / 2) (by omega) (by omega)]
      have hp : (2 : Int) ^ (d + 1) = 2 * 2 ^ d := by rw [Int.pow_succ]; omega
      have m1 : 0 ≤ (lo + hi) / 2 := by omega
      have m2 : (lo + hi) / 2 ≤ 2147483649 := by omega
      have q1 := Int.mul_nonneg m1 m1
      have q2 := sq_le m1 m2
      rw [wid (x := (lo + hi) / 2 * ((lo + hi) / 2)) (by omega) (by omega)]
      by_cases t : (lo + hi) / 2 * ((lo + hi) / 2) ≤ n
      · rw [if_pos t]
        exact ih k _ hi m1 (by omega) hhi t h2 (by omega) (by omega)
      · rw [if_neg t]
        exact ih k lo _ h0 (by omega) m2 h1 (by omega) (by omega) (by omega)
    · rw [if_neg c]
      have e : hi = lo + 1 := by omega
      exact ⟨lo, rfl, h0, h1, by rw [← e]; exact h2⟩
theorem sRoot (n : Int) (hn : 0 ≤ n) (hn' : n ≤ 4611686018427387904) : ∃ r, (∀ k, 40 ≤ k → spec_Root.f k n = some r) ∧ IsRoot n r := by
  have key : ∀ k, 40 ≤ k → ∃ r, spec_Root.f k n = some r ∧ IsRoot n r := by
    intro k hk
    obtain ⟨r, e, h⟩ := sRootLoop n hn hn' 32 k 0 2147483649 (by decide) (by decide) (by decide) (by omega) (by omega) (by decide) (by omega)
    refine ⟨r, ?_, h⟩
    unfold spec_Root.f spec_l5In.f
    rw [if_pos hn]; simp only [Option.bind_some]; rw [if_pos (by simpa using hn'), e]
  obtain ⟨r, _, h⟩ := key 40 (by omega)
  exact ⟨r, fun k hk => by obtain ⟨r', e, h'⟩ := key k hk; rw [e, root_one h' h], h⟩
theorem iRootTop (n : Int) (j : Nat) : ∀ (k : Nat), j < 31 → j + 1 < k → impl_Root.l0 k n 2147483648 (2 ^ j) = some 2147483648 := by
  induction j with
  | zero =>
    intro k _ hk
    obtain ⟨k, rfl⟩ : ∃ m, k = m + 2 := ⟨k - 2, by omega⟩
    simp only [impl_Root.l0]
    rw [if_pos (by decide), wid (x := 2147483648 + 2 ^ 0) (by decide) (by decide)]
    rw [if_neg (c := (2147483648 + 2 ^ 0 : Int) ≤ 2147483648) (by decide)]
    split <;> rfl
  | succ j ih =>
    intro k hj hk
    obtain ⟨k, rfl⟩ : ∃ m, k = m + 1 := ⟨k - 1, by omega⟩
    have hp : (2 : Int) ^ (j + 1) = 2 * 2 ^ j := by rw [Int.pow_succ]; omega
    have hpos : (0 : Int) < 2 ^ j := Int.pow_pos (by decide)
    have hle : (2 : Int) ^ j ≤ 2 ^ 30 := by
      have := Nat.pow_le_pow_right (show 0 < 2 by decide) (show j ≤ 30 by omega)
      exact_mod_cast this
    have h30 : (2 : Int) ^ 30 = 1073741824 := by decide
    simp only [impl_Root.l0]
    rw [if_pos (by omega), wid (x := 2147483648 + 2 ^ (j + 1)) (by omega) (by omega)]
    rw [if_neg (c := (2147483648 + 2 ^ (j + 1) : Int) ≤ 2147483648) (by omega)]
    have e : (2 : Int) ^ (j + 1) / 2 = 2 ^ j := by omega
    rw [e, ih k (by omega) (by omega)]
    split <;> rfl
theorem iRootLoop (n : Int) (hn : 0 ≤ n) (j : Nat) : ∀ (k : Nat) (r : Int), 0 ≤ r → r + 2 * 2 ^ j ≤ 2147483648 → r * r ≤ n → n < (r + 2 * 2 ^ j) * (r + 2 * 2 ^ j) → j + 1 < k →
    ∃ x, impl_Root.l0 k n r (2 ^ j) = some x ∧ IsRoot n x := by
  induction j with
  | zero =>
    intro k r h0 h1 h2 h3 hk
    obtain ⟨k, rfl⟩ : ∃ m, k = m + 2 := ⟨k - 2, by omega⟩
    have e0 : (2 : Int) ^ 0 = 1 := rfl
    rw [e0] at h1 h3 ⊢
    have q2 := sq_le (show 0 ≤ r + 1 by omega) (show r + 1 ≤ 2147483648 by omega)
    have q1 := Int.mul_nonneg (show 0 ≤ r + 1 by omega) (show 0 ≤ r + 1 by omega)
    simp only [impl_Root.l0]
    rw [if_pos (by decide), wid (x := r + 1) (by omega) (by omega), wid (x := (r + 1) * (r + 1)) (by omega) (by omega)]
    by_cases c : (r + 1) * (r + 1) ≤ n
    · rw [if_pos c, if_pos (by omega)]
      exact ⟨r + 1, rfl, by omega, c, by rw [show r + 1 + 1 = r + 2 * 1 by omega]; exact h3⟩
    · rw [if_neg c]
      exact ⟨r, rfl, h0, h2, by omega⟩
  | succ j ih =>
    intro k r h0 h1 h2 h3 hk
    obtain ⟨k, rfl⟩ : ∃ m, k = m + 1 := ⟨k - 1, by omega⟩
    have hp : (2 : Int) ^ (j + 1) = 2 * 2 ^ j := by rw [Int.pow_succ]; omega
    have hpos : (0 : Int) < 2 ^ j := Int.pow_pos (by decide)
    have q2 := sq_le (show 0 ≤ r + 2 ^ (j + 1) by omega) (show r + 2 ^ (j + 1) ≤ 2147483648 by omega)
    have q1 := Int.mul_nonneg (show 0 ≤ r + 2 ^ (j + 1) by omega) (show 0 ≤ r + 2 ^ (j + 1) by omega)
    have e : (2 : Int) ^ (j + 1) / 2 = 2 ^ j := by omega
    simp only [impl_Root.l0]
    rw [if_pos (by omega), wid (x := r + 2 ^ (j + 1)) (by omega) (by omega), wid (x := (r + 2 ^ (j + 1)) * (r + 2 ^ (j + 1))) (by omega) (by omega), e]
    by_cases c : (r + 2 ^ (j + 1)) * (r + 2 ^ (j + 1)) ≤ n
    · rw [if_pos c, if_pos (by omega)]
      refine ih k _ (by omega) (by omega) c ?_ (by omega)
      rw [show r + 2 ^ (j + 1) + 2 * 2 ^ j = r + 2 * 2 ^ (j + 1) by omega]; exact h3
    · rw [if_neg c]
      refine ih k _ h0 (by omega) h2 ?_ (by omega)
      rw [← hp]; omega
theorem iRoot (n : Int) (hn : 0 ≤ n) (hn' : n ≤ 4611686018427387904) : ∃ r, (∀ k, 40 ≤ k → impl_Root.f k n = some r) ∧ IsRoot n r := by
  have key : ∀ k, 40 ≤ k → ∃ r, impl_Root.f k n = some r ∧ IsRoot n r := by
    intro k hk
    obtain ⟨k, rfl⟩ : ∃ m, k = m + 1 := ⟨k - 1, by omega⟩
    unfold impl_Root.f impl_within.f
    rw [if_pos hn]; simp only [Option.bind_some]; rw [if_pos (by simpa using hn')]
    simp only [impl_Root.l0]
    rw [if_pos (by decide), wid (x := (0 : Int) + 2147483648) (by decide) (by decide), wid (x := ((0 : Int) + 2147483648) * (0 + 2147483648)) (by decide) (by decide)]
    by_cases c : ((0 : Int) + 2147483648) * (0 + 2147483648) ≤ n
    · rw [if_pos c, if_pos (by decide)]
      refine ⟨2147483648, ?_, by decide, by omega, by omega⟩
      exact iRootTop n 30 k (by decide) (by omega)
    · rw [if_neg c]
      exact iRootLoop n hn 30 k 0 (by decide) (by decide) (by omega) (by have : (2 : Int) ^ 30 = 1073741824 := by decide
                                                                         rw [this]; omega) (by omega)
  obtain ⟨r, _, h⟩ := key 40 (by omega)
  exact ⟨r, fun k hk => by obtain ⟨r', e, h'⟩ := key k hk; rw [e, root_one h' h], h⟩
theorem FnExactRoot : laws_FnExactRoot.Pure := by
  intro n _
  refine ⟨40, ?_⟩
  unfold laws_FnExactRoot.f
  by_cases h : 0 ≤ n ∧ n ≤ 4611686018427387904
  · obtain ⟨a, ea, ha⟩ := sRoot n h.1 h.2
    obtain ⟨b, eb, hb⟩ := iRoot n h.1 h.2
    rw [ea 40 (by omega), eb 40 (by omega)]; simp [root_one ha hb]
  · unfold spec_Root.f impl_Root.f spec_l5In.f impl_within.f
    by_cases h0 : 0 ≤ n
    · rw [if_pos h0]; simp only [Option.bind_some]
      have c : ¬ n ≤ 4611686018427387904 := by omega
      simp [c]
    · rw [if_neg h0]; simp

end Go.Proofs.Ytnefaadcokniiaa.Pure
