/- laws.FnExactNorm: the program's Norm returns what the reference's returns, for every list of ints. No condition. -/
import Derived.Test.YtbgpehoffkbgkaaPFnExactNormx2
import Derived.Test.YtbgpehoffkbgkaaAid
import Derived.Test.YtbgpehoffkbgkaaLoop
namespace Go.Proofs.Ytbgpehoffkbgkaa.Pure
open Go.RowKit Go.Proofs.Ytbgpehoffkbgkaa.PFnExactNorm Go.Proofs.YtbgpehoffkbgkaaW.PrintWords Go.Proofs.YtbgpehoffkbgkaaW.PrintLast Go.Proofs.YtbgpehoffkbgkaaW.PrintMore Go.Proofs.Ytbgpehoffkbgkaa.Aid
set_option linter.unusedVariables false
set_option linter.unusedSimpArgs false
def inB (a b c : Int) : Bool := decide (b ≤ a) && decide (a ≤ c)
theorem inB_iff (a b c : Int) : inB a b c = true ↔ b ≤ a ∧ a ≤ c := by unfold inB; simp
theorem inB_not (a b c : Int) : inB a b c = false ↔ ¬ (b ≤ a ∧ a ≤ c) := by rw [← inB_iff]; simp
theorem in_body (a b c : Int) : (if a ≥ b then (some (decide (a ≤ c))) else (some false)) = some (inB a b c) := by
  unfold inB
  by_cases h : b ≤ a
  · rw [if_pos h]; simp [h]
  · rw [if_neg h]; simp [h]
theorem ite_and (b c : Bool) : (if b = true then some c else some false) = some (b && c) := by cases b <;> rfl
theorem ite_same {α : Type} (b : Bool) (x : α) : (if b = true then x else x) = x := by cases b <;> rfl
theorem sIn (a b c : Int) : spec_l5In.f a b c = some (inB a b c) := in_body a b c
theorem iIn (a b c : Int) : impl_within.f a b c = some (inB a b c) := in_body a b c
theorem rd_nat (l : List Int) (i : Nat) : rd l (i : Int) = l.getD i 0 := by unfold rd; rw [Int.toNat_natCast]
theorem toIntS_loop (l : List Int) (hl : l.length ≤ 1048576) : ∀ (d i k : Nat) (y : List Int), i + d = l.length → d < k → y.length = l.length → (∀ j, j < i → y.getD j 0 = l.getD j 0) → laws_toIntS.l0 k l y i = some l := by
  intro d
  induction d with
  | zero =>
    intro i k y h hk hy hj
    obtain ⟨k, rfl⟩ : ∃ m, k = m + 1 := ⟨k - 1, by omega⟩
    simp only [laws_toIntS.l0]
    rw [if_neg (by omega)]
    congr 1
    refine List.ext_getElem hy fun j h1 h2 => ?_
    have := hj j (by omega)
    rwa [Loop.getD_lt _ _ _ h1, Loop.getD_lt _ _ _ h2] at this
  | succ d ih =>
    intro i k y h hk hy hj
    obtain ⟨k, rfl⟩ : ∃ m, k = m + 1 := ⟨k - 1, by omega⟩
    simp only [laws_toIntS.l0]
    rw [if_pos (by omega), if_pos (by omega), if_pos (by omega), Loop.wsucc i (by omega), Int.toNat_natCast, rd_nat]
    refine ih (i + 1) k _ (by omega) (by omega) (by simpa using hy) fun j h1 => ?_
    by_cases e : j = i
    · rw [e, Loop.getD_set_eq _ _ _ _ (by omega)]
    · rw [Loop.getD_set_ne _ _ _ _ _ e]; exact hj j (by omega)
theorem toIntS_ok (l : List Int) (hl : l.length ≤ 1048576) (k : Nat) (hk : l.length < k) : laws_toIntS.f k l = some l := by
  unfold laws_toIntS.f
  rw [if_pos (by omega), Int.toNat_natCast, if_pos (by omega)]
  exact toIntS_loop l hl l.length 0 k _ (by omega) hk (by simp) (by intro j h; omega)
theorem eqIntS_loop (l : List Int) (hl : l.length ≤ 1048576) : ∀ (d i k : Nat), i + d = l.length → d < k → laws_eqIntS.l0 k l l i = some true := by
  intro d
  induction d with
  | zero =>
    intro i k h hk
    obtain ⟨k, rfl⟩ : ∃ m, k = m + 1 := ⟨k - 1, by omega⟩
    simp only [laws_eqIntS.l0]
    rw [if_neg (by omega)]
  | succ d ih =>
    intro i k h hk
    obtain ⟨k, rfl⟩ : ∃ m, k = m + 1 := ⟨k - 1, by omega⟩
    simp only [laws_eqIntS.l0]
    rw [if_pos (by omega), if_pos (by omega), if_pos (by omega), if_pos trivial, Loop.wsucc i (by omega)]
    exact ih (i + 1) k (by omega) (by omega)
theorem eqIntS_ok (l : List Int) (hl : l.length ≤ 1048576) (k : Nat) (hk : l.length < k) : laws_eqIntS.f k l l = some true := by
  unfold laws_eqIntS.f
  rw [if_pos rfl]
  exact eqIntS_loop l hl l.length 0 k (by omega) hk
/-- r is the whole root of n. -/
def IsRoot (n r : Int) : Prop := 0 ≤ r ∧ r * r ≤ n ∧ n < (r + 1) * (r + 1)
theorem root_one {n a b : Int} (ha : IsRoot n a) (hb : IsRoot n b) : a = b := by
  obtain ⟨a0, a1, a2⟩ := ha
  obtain ⟨b0, b1, b2⟩ := hb
  rcases Int.lt_trichotomy a b with h | h | h
  · have := Int.mul_le_mul (show a + 1 ≤ b by omega) (show a + 1 ≤ b by omega) (by omega) b0
    omega
  · exact h
  · have := Int.mul_le_mul (show b + 1 ≤ a by omega) (show b + 1 ≤ a by omega) (by omega) a0
    omega
theorem sq_le {a b : Int} (h0 : 0 ≤ a) (h : a ≤ b) : a * a ≤ b * b := Int.mul_le_mul h h h0 (by omega)
theorem sRootLoop (n : Int) (hn : 0 ≤ n) (hn' : n ≤ 4611686018427387904) (d : Nat) : ∀ (k : Nat) (lo hi : Int), 0 ≤ lo → lo < hi → hi ≤ 2147483649 → lo * lo ≤ n → n < hi * hi → hi - lo ≤ 2 ^ d → d < k →
    ∃ r, spec_Root.l0 k n lo hi = some r ∧ IsRoot n r := by
  induction d with
  | zero =>
    intro k lo hi h0 hlh hhi h1 h2 h3 hk
    obtain ⟨k, rfl⟩ : ∃ m, k = m + 1 := ⟨k - 1, by omega⟩
    have e : hi = lo + 1 := by omega
    refine ⟨lo, ?_, h0, h1, by rw [← e]; exact h2⟩
    simp only [spec_Root.l0]
    rw [wid (x := hi - lo) (by omega) (by omega), if_neg (by omega)]
  | succ d ih =>
    intro k lo hi h0 hlh hhi h1 h2 h3 hk
    obtain ⟨k, rfl⟩ : ∃ m, k = m + 1 := ⟨k - 1, by omega⟩
    simp only [spec_Root.l0]
    rw [wid (x := hi - lo) (by omega) (by omega)]
    by_cases c : hi - lo > 1
    · rw [if_pos c, wid (x := lo + hi) (by omega) (by omega), tdiv_nn (by omega), wid (x := (lo + hi) / 2) (by omega) (by omega)]
      have hp : (2 : Int) ^ (d + 1) = 2 * 2 ^ d := by rw [Int.pow_succ]; omega
      have m1 : 0 ≤ (lo + hi) / 2 := by omega
      have m2 : (lo + hi) / 2 ≤ 2147483649 := by omega
      have q1 := Int.mul_nonneg m1 m1
      have q2 := sq_le m1 m2
      rw [wid (x := (lo + hi) / 2 * ((lo + hi) / 2)) (by omega) (by omega)]
      by_cases t : (lo + hi) / 2 * ((lo + hi) / 2) ≤ n
      · rw [if_pos t]
        exact ih k _ hi m1 (by omega) hhi t h2 (by omega) (by omega)
      · rw [if_neg t]
        exact ih k lo _ h0 (by omega) m2 h1 (by omega) (by omega) (by omega)
    · rw [if_neg c]
      have e : hi = lo + 1 := by omega
      exact ⟨lo, rfl, h0, h1, by rw [← e]; exact h2⟩
theorem sRoot (n : Int) (hn : 0 ≤ n) (hn' : n ≤ 4611686018427387904) : ∃ r, (∀ k, 40 ≤ k → spec_Root.f k n = some r) ∧ IsRoot n r := by
  have key : ∀ k, 40 ≤ k → ∃ r, spec_Root.f k n = some r ∧ IsRoot n r := by
    intro k hk
    obtain ⟨r, e, h⟩ := sRootLoop n hn hn' 32 k 0 2147483649 (by decide) (by decide) (by decide) (by omega) (by omega) (by decide) (by omega)
    refine ⟨r, ?_, h⟩
    unfold spec_Root.f spec_l5In.f
    rw [if_pos hn]; simp only [Option.bind_some]; rw [if_pos (by simpa using hn'), e]
  obtain ⟨r, _, h⟩ := key 40 (by omega)
  exact ⟨r, fun k hk => by obtain ⟨r', e, h'⟩ := key k hk; rw [e, root_one h' h], h⟩
theorem iRootTop (n : Int) (j : Nat) : ∀ (k : Nat), j < 31 → j + 1 < k → impl_Root.l0 k n 2147483648 (2 ^ j) = some 2147483648 := by
  induction j with
  | zero =>
    intro k _ hk
    obtain ⟨k, rfl⟩ : ∃ m, k = m + 2 := ⟨k - 2, by omega⟩
    simp only [impl_Root.l0]
    rw [if_pos (by decide), wid (x := 2147483648 + 2 ^ 0) (by decide) (by decide)]
    rw [if_neg (c := (2147483648 + 2 ^ 0 : Int) ≤ 2147483648) (by decide)]
    split <;> rfl
  | succ j ih =>
    intro k hj hk
    obtain ⟨k, rfl⟩ : ∃ m, k = m + 1 := ⟨k - 1, by omega⟩
    have hp : (2 : Int) ^ (j + 1) = 2 * 2 ^ j := by rw [Int.pow_succ]; omega
    have hpos : (0 : Int) < 2 ^ j := Int.pow_pos (by decide)
    have hle : (2 : Int) ^ j ≤ 2 ^ 30 := by
      have := Nat.pow_le_pow_right (show 0 < 2 by decide) (show j ≤ 30 by omega)
      exact_mod_cast this
    have h30 : (2 : Int) ^ 30 = 1073741824 := by decide
    simp only [impl_Root.l0]
    rw [if_pos (by omega), wid (x := 2147483648 + 2 ^ (j + 1)) (by omega) (by omega)]
    rw [if_neg (c := (2147483648 + 2 ^ (j + 1) : Int) ≤ 2147483648) (by omega)]
    have e : (2 : Int) ^ (j + 1) / 2 = 2 ^ j := by omega
    rw [e, ih k (by omega) (by omega)]
    split <;> rfl
theorem iRootLoop (n : Int) (hn : 0 ≤ n) (j : Nat) : ∀ (k : Nat) (r : Int), 0 ≤ r → r + 2 * 2 ^ j ≤ 2147483648 → r * r ≤ n → n < (r + 2 * 2 ^ j) * (r + 2 * 2 ^ j) → j + 1 < k →
    ∃ x, impl_Root.l0 k n r (2 ^ j) = some x ∧ IsRoot n x := by
  induction j with
  | zero =>
    intro k r h0 h1 h2 h3 hk
    obtain ⟨k, rfl⟩ : ∃ m, k = m + 2 := ⟨k - 2, by omega⟩
    have e0 : (2 : Int) ^ 0 = 1 := rfl
    rw [e0] at h1 h3 ⊢
    have q2 := sq_le (show 0 ≤ r + 1 by omega) (show r + 1 ≤ 2147483648 by omega)
    have q1 := Int.mul_nonneg (show 0 ≤ r + 1 by omega) (show 0 ≤ r + 1 by omega)
    simp only [impl_Root.l0]
    rw [if_pos (by decide), wid (x := r + 1) (by omega) (by omega), wid (x := (r + 1) * (r + 1)) (by omega) (by omega)]
    by_cases c : (r + 1) * (r + 1) ≤ n
    · rw [if_pos c, if_pos (by omega)]
      exact ⟨r + 1, rfl, by omega, c, by rw [show r + 1 + 1 = r + 2 * 1 by omega]; exact h3⟩
    · rw [if_neg c]
      exact ⟨r, rfl, h0, h2, by omega⟩
  | succ j ih =>
    intro k r h0 h1 h2 h3 hk
    obtain ⟨k, rfl⟩ : ∃ m, k = m + 1 := ⟨k - 1, by omega⟩
    have hp : (2 : Int) ^ (j + 1) = 2 * 2 ^ j := by rw [Int.pow_succ]; omega
    have hpos : (0 : Int) < 2 ^ j := Int.pow_pos (by decide)
    have q2 := sq_le (show 0 ≤ r + 2 ^ (j + 1) by omega) (show r + 2 ^ (j + 1) ≤ 2147483648 by omega)
    have q1 := Int.mul_nonneg (show 0 ≤ r + 2 ^ (j + 1) by omega) (show 0 ≤ r + 2 ^ (j + 1) by omega)
    have e : (2 : Int) ^ (j + 1) / 2 = 2 ^ j := by omega
    simp only [impl_Root.l0]
    rw [if_pos (by omega), wid (x := r + 2 ^ (j + 1)) (by omega) (by omega), wid (x := (r + 2 ^ (j + 1)) * (r + 2 ^ (j + 1))) (by omega) (by omega), e]
    by_cases c : (r + 2 ^ (j + 1)) * (r + 2 ^ (j + 1)) ≤ n
    · rw [if_pos c, if_pos (by omega)]
      refine ih k _ (by omega) (by omega) c ?_ (by omega)
      rw [show r + 2 ^ (j + 1) + 2 * 2 ^ j = r + 2 * 2 ^ (j + 1) by omega]; exact h3
    · rw [if_neg c]
      refine ih k _ h0 (by omega) h2 ?_ (by omega)
      rw [← hp]; omega
theorem iRoot (n : Int) (hn : 0 ≤ n) (hn' : n ≤ 4611686018427387904) : ∃ r, (∀ k, 40 ≤ k → impl_Root.f k n = some r) ∧ IsRoot n r := by
  have key : ∀ k, 40 ≤ k → ∃ r, impl_Root.f k n = some r ∧ IsRoot n r := by
    intro k hk
    obtain ⟨k, rfl⟩ : ∃ m, k = m + 1 := ⟨k - 1, by omega⟩
    unfold impl_Root.f impl_within.f
    rw [if_pos hn]; simp only [Option.bind_some]; rw [if_pos (by simpa using hn')]
    simp only [impl_Root.l0]
    rw [if_pos (by decide), wid (x := (0 : Int) + 2147483648) (by decide) (by decide), wid (x := ((0 : Int) + 2147483648) * (0 + 2147483648)) (by decide) (by decide)]
    by_cases c : ((0 : Int) + 2147483648) * (0 + 2147483648) ≤ n
    · rw [if_pos c, if_pos (by decide)]
      refine ⟨2147483648, ?_, by decide, by omega, by omega⟩
      exact iRootTop n 30 k (by decide) (by omega)
    · rw [if_neg c]
      exact iRootLoop n hn 30 k 0 (by decide) (by decide) (by omega) (by have : (2 : Int) ^ 30 = 1073741824 := by decide
                                                                         rw [this]; omega) (by omega)
  obtain ⟨r, _, h⟩ := key 40 (by omega)
  exact ⟨r, fun k hk => by obtain ⟨r', e, h'⟩ := key k hk; rw [e, root_one h' h], h⟩
/-- The root as both reckon it: of a number out of bounds 0. -/
def rootI (n : Int) : Int := (spec_Root.f 40 n).getD 0
theorem root_out (n : Int) (h : ¬ (0 ≤ n ∧ n ≤ 4611686018427387904)) (k : Nat) : spec_Root.f k n = some 0 ∧ impl_Root.f k n = some 0 := by
  unfold spec_Root.f impl_Root.f
  rw [sIn, iIn]; simp only [Option.bind_some]
  have : inB n 0 4611686018427387904 = false := (inB_not _ _ _).2 h
  rw [this]; exact ⟨rfl, rfl⟩
theorem rootBoth (n : Int) (k : Nat) (hk : 40 ≤ k) : spec_Root.f k n = some (rootI n) ∧ impl_Root.f k n = some (rootI n) := by
  by_cases h : 0 ≤ n ∧ n ≤ 4611686018427387904
  · obtain ⟨a, ea, ha⟩ := sRoot n h.1 h.2
    obtain ⟨b, eb, hb⟩ := iRoot n h.1 h.2
    have e : rootI n = a := by unfold rootI; rw [ea 40 (by omega)]; rfl
    rw [ea k hk, eb k hk, e, root_one hb ha]; exact ⟨rfl, rfl⟩
  · have e : rootI n = 0 := by unfold rootI; rw [(root_out n h 40).1]; rfl
    rw [e]; exact root_out n h k
theorem root_zero : rootI 0 = 0 := by
  obtain ⟨a, ea, h0, h1, h2⟩ := sRoot 0 (by decide) (by decide)
  unfold rootI
  rw [ea 40 (by omega)]
  show a = 0
  rcases Int.lt_or_le 0 a with c | c
  · have := Int.mul_le_mul (show 1 ≤ a by omega) (show 1 ≤ a by omega) (by decide) h0
    omega
  · omega
def gradP (l : List Int) (i : Nat) : Bool := inB (l.getD i 0) (-16777216) 16777216
def gradB (l : List Int) : Bool := Loop.allB (gradP l) l.length 0 && decide ((l.length : Int) ≤ 4096)
theorem grad_end (l : List Int) : (some (decide ((l.length : Int) ≤ 4096))) = some (decide ((l.length : Int) ≤ 4096)) := by
  rfl
theorem sgrad (l : List Int) (hl : l.length ≤ 1048576) (k : Nat) (hk : l.length < k) : spec_l15Grad.f k l = some (gradB l) := by
  have h := Loop.all_ix (fun k i => spec_l15Grad.l0 k l i) l.length 1 0 (gradP l) (some false) (some (decide ((l.length : Int) ≤ 4096)))
    (by intro k i _ hi
        simp only [spec_l15Grad.l0, sIn, Option.bind_some]
        rw [if_pos (show (i : Int) < (l.length : Int) by omega), if_pos (show 0 ≤ (i : Int) by omega), rd_nat, Loop.wsucc i (by omega)]
        rfl)
    (by intro k _; simp only [spec_l15Grad.l0]; rw [if_neg (by omega)])
    l.length 0 k (by omega) (by omega)
  unfold spec_l15Grad.f
  rw [show spec_l15Grad.l0 k l 0 = _ from h]
  unfold gradB
  have e := grad_end l
  rw [e]
  cases Loop.allB (gradP l) l.length 0 <;> rfl
theorem igrad (l : List Int) (hl : l.length ≤ 1048576) (k : Nat) (hk : l.length < k) : impl_gradOk.f k l = some (gradB l) := by
  have h := Loop.all_ix (fun k i => impl_gradOk.l0 k l l l.length i) l.length 1 0 (gradP l) (some false) (some (decide ((l.length : Int) ≤ 4096)))
    (by intro k i _ hi
        simp only [impl_gradOk.l0, impl_isGrad.f, iIn, Option.bind_some]
        rw [if_pos (show (i : Int) < (l.length : Int) by omega), if_pos (show 0 ≤ (i : Int) by omega), if_pos (show (i : Int) < (l.length : Int) by omega), rd_nat, Loop.wsucc i (by omega)]
        rfl)
    (by intro k _; simp only [impl_gradOk.l0]; rw [if_neg (by omega)])
    l.length 0 k (by omega) (by omega)
  unfold impl_gradOk.f
  rw [show impl_gradOk.l0 k l l l.length 0 = _ from h]
  unfold gradB
  have e := grad_end l
  rw [e]
  cases Loop.allB (gradP l) l.length 0 <;> rfl
def sumS (l : List Int) (i : Nat) (s : Int) : Int := wrap64 (s + wrap64 (l.getD i 0 * l.getD i 0))
theorem sNormLoop (l : List Int) (hl : l.length ≤ 1048576) (k : Nat) (hk : l.length + 42 + l.length ≤ k) : spec_Norm.l0 k l 0 0 = Loop.runIx (fun i s => if gradB l = true then .inr (sumS l i s) else .inl (some (rootI s))) (fun s => some (rootI s)) l.length 0 0 := by
  have h := Loop.run_ix (fun k i s => spec_Norm.l0 k l s i) l.length 1 (l.length + 41) (fun i s => if gradB l = true then .inr (sumS l i s) else .inl (some (rootI s))) (fun s => some (rootI s))
    (by intro k i s hk hi
        simp only [spec_Norm.l0]
        rw [if_pos (show (i : Int) < (l.length : Int) by omega), sgrad l hl k (by omega), if_pos (show 0 ≤ (i : Int) by omega), rd_nat, Loop.wsucc i (by omega), (rootBoth s k (by omega)).1]
        simp only [Option.bind_some]
        cases gradB l <;> rfl)
    (by intro k s hk
        simp only [spec_Norm.l0]
        rw [if_neg (by omega), (rootBoth s k (by omega)).1]; rfl)
    l.length 0 k 0 (by omega) (by omega)
  exact h
theorem iNormLoop (l : List Int) (hl : l.length ≤ 1048576) (k : Nat) (hk : l.length + 42 + l.length ≤ k) : impl_Norm.l0 k 0 l l.length 0 = Loop.runIx (fun i s => .inr (sumS l i s)) (fun s => some (rootI s)) l.length 0 0 := by
  have h := Loop.run_ix (fun k i s => impl_Norm.l0 k s l l.length i) l.length 1 (l.length + 41) (fun i s => .inr (sumS l i s)) (fun s => some (rootI s))
    (by intro k i s hk hi
        simp only [impl_Norm.l0]
        rw [if_pos (show (i : Int) < (l.length : Int) by omega), if_pos (show 0 ≤ (i : Int) by omega), if_pos (show (i : Int) < (l.length : Int) by omega), rd_nat, Loop.wsucc i (by omega)]
        rfl)
    (by intro k s hk
        simp only [impl_Norm.l0]
        rw [if_neg (by omega), (rootBoth s k (by omega)).2]; rfl)
    l.length 0 k 0 (by omega) (by omega)
  exact h
theorem FnExactNorm (l : List Int) (_ : l.length ≤ maxLen) (_ : ∀ x ∈ l, (Lit.int .i64 x).wf = true) : ∃ k, laws_FnExactNorm.f k l = some true := by
  refine ⟨l.length + 42 + l.length, ?_⟩
  unfold laws_FnExactNorm.f
  by_cases c : (l.length : Int) > 1048576
  · rw [if_pos c]
  · rw [if_neg c, toIntS_ok l (by omega) _ (by omega)]
    simp only [Option.bind_some]
    have key : ∃ r, spec_Norm.f (l.length + 42 + l.length) l = some r ∧ impl_Norm.f (l.length + 42 + l.length) l = some r := by
      unfold spec_Norm.f impl_Norm.f
      rw [sNormLoop l (by omega) _ (by omega), igrad l (by omega) _ (by omega), iNormLoop l (by omega) _ (by omega)]
      simp only [Option.bind_some]
      by_cases g : gradB l = true
      · simp only [g, if_true]
        obtain ⟨x, hx⟩ := Loop.run_some (fun i s => Sum.inr (sumS l i s)) (fun s => some (rootI s)) (by intro i s r h; cases h) (fun s => ⟨_, rfl⟩) l.length 0 0
        exact ⟨x, hx, hx⟩
      · rw [if_neg g]
        refine ⟨0, ?_, rfl⟩
        simp only [g]
        cases e : l.length with
        | zero =>
          exfalso; apply g
          unfold gradB; rw [e]; rfl
        | succ n =>
          show (some (rootI 0)) = _
          rw [root_zero]
    obtain ⟨r, e1, e2⟩ := key
    rw [e1, e2, eqIntS_ok l (by omega) _ (by omega)]
    simp

end Go.Proofs.Ytbgpehoffkbgkaa.Pure
