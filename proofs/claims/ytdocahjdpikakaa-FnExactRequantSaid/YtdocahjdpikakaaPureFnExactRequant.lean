/- laws.FnExactRequant: the program's Requant returns what the reference's returns, for every three ints and scale. No condition. -/
import Derived.Test.YtdocahjdpikakaaPFnExactRequantx2
import Derived.Test.YtdocahjdpikakaaAid
namespace Go.Proofs.Ytdocahjdpikakaa.Pure
open Go.RowKit Go.Proofs.Ytdocahjdpikakaa.PFnExactRequant Go.Proofs.YtdocahjdpikakaaW.PrintWords Go.Proofs.YtdocahjdpikakaaW.PrintLast Go.Proofs.YtdocahjdpikakaaW.PrintMore Go.Proofs.Ytdocahjdpikakaa.Aid
set_option linter.unusedVariables false
set_option linter.unusedSimpArgs false
def inB (a b c : Int) : Bool := decide (b ≤ a) && decide (a ≤ c)
theorem inB_iff (a b c : Int) : inB a b c = true ↔ b ≤ a ∧ a ≤ c := by unfold inB; simp
theorem inB_not (a b c : Int) : inB a b c = false ↔ ¬ (b ≤ a ∧ a ≤ c) := by rw [← inB_iff]; simp
theorem in_body (a b c : Int) : (if a ≥ b then (some (decide (a ≤ c))) else (some false)) = some (inB a b c) := by
  unfold inB
  by_cases h : b ≤ a
  · rw [if_pos h]; simp [h]
  · rw [if_neg h]; simp [h]
theorem ite_and (b c : Bool) : (if b = true then some c else some false) = some (b && c) := by cases b <;> rfl
theorem ite_same {α : Type} (b : Bool) (x : α) : (if b = true then x else x) = x := by cases b <;> rfl
theorem sIn (a b c : Int) : spec_l5In.f a b c = some (inB a b c) := in_body a b c
theorem iIn (a b c : Int) : impl_within.f a b c = some (inB a b c) := in_body a b c
def scaleB (a b : Int) : Bool := inB a 1 1099511627776 && inB b 0 255
theorem scale_bd {a b : Int} (h : scaleB a b = true) : 1 ≤ a ∧ a ≤ 1099511627776 ∧ 0 ≤ b ∧ b ≤ 255 := by
  unfold scaleB at h
  rw [Bool.and_eq_true, inB_iff, inB_iff] at h
  omega
theorem sScale (a b : Int) : spec_ScaleOk.f a b = some (scaleB a b) := by
  unfold spec_ScaleOk.f scaleB
  rw [sIn, sIn]; simp only [Option.bind_some]; exact ite_and _ _
theorem iByte (a : Int) : impl_isByte.f a = some (inB a 0 255) := by
  unfold impl_isByte.f; rw [iIn]; rfl
theorem iScale (a b : Int) : impl_ScaleOk.f a b = some (scaleB a b) := by
  unfold impl_ScaleOk.f scaleB
  rw [iIn, iByte]; simp only [Option.bind_some]; exact ite_and _ _
/-- A whole number's half rounding: q and a rest r of d. -/
def rnd (q r d : Int) : Int := if r > d - r ∨ (r = d - r ∧ q % 2 = 1) then q + 1 else q
theorem rnd_or (q r d : Int) : rnd q r d = q ∨ rnd q r d = q + 1 := by unfold rnd; split <;> simp
/-- n by d to the nearest whole number, of two the even one. -/
def nearI (n d : Int) : Int := if d < 1 ∨ d > 4611686018427387904 then 0 else rnd (n / d) (n % d) d
theorem round_eq (q r d : Int) (hr : 0 ≤ r) (hrd : r < d) (hd : d ≤ 4611686018427387904) (hq : -9223372036854775808 ≤ q) (hq' : q < 9223372036854775807) :
    (if r > (wrap64 (d - r)) then (some (wrap64 (q + 1))) else (if r = (wrap64 (d - r)) then (if (Go.bits .and .i64 q 1) = 1 then (some (wrap64 (q + 1))) else (some q)) else (some q))) = some (rnd q r d) := by
  rw [wid (x := d - r) (by omega) (by omega), wid (x := q + 1) (by omega) (by omega), and_one]
  unfold rnd
  by_cases h1 : r > d - r
  · rw [if_pos h1, if_pos (.inl h1)]
  · rw [if_neg h1]
    by_cases h2 : r = d - r
    · rw [if_pos h2]
      by_cases h3 : q % 2 = 1
      · rw [if_pos h3, if_pos (.inr ⟨h2, h3⟩)]
      · rw [if_neg h3, if_neg (by omega)]
    · rw [if_neg h2, if_neg (by omega)]
/-- The body of Near, for a d that can be. -/
theorem near_body (n d : Int) (hn : -9223372036854775808 ≤ n) (hn' : n ≤ 9223372036854775807) (h1 : 1 ≤ d) (h2 : d ≤ 4611686018427387904) (F : Int → Int → Int → Option Int)
    (hF : ∀ q r, 0 ≤ r → r < d → -9223372036854775808 ≤ q → q < 9223372036854775807 → F q r d = some (rnd q r d)) (hF1 : ∀ q, d = 1 → F q 0 1 = some q) :
    (if (Int.tmod n d) < 0 then ((F (wrap64 ((wrap64 (Int.tdiv n d)) - 1)) (wrap64 ((Int.tmod n d) + d)) d).bind fun t101 => (some t101)) else ((F (wrap64 (Int.tdiv n d)) (Int.tmod n d) d).bind fun t102 => (some t102))) = some (nearI n d) := by
  have e1 := tmod_fix n d (by omega)
  have e2 := tdiv_fix n d (by omega)
  have e3 := tmod_bd n d (by omega)
  have e4 := Int.emod_nonneg n (show d ≠ 0 by omega)
  have e5 := Int.emod_lt_of_pos n (show 0 < d by omega)
  have eN : nearI n d = rnd (n / d) (n % d) d := by unfold nearI; rw [if_neg (by omega)]
  rw [eN]
  by_cases hd : d = 1
  · subst hd
    have : Int.tmod n 1 = 0 := by omega
    rw [this, if_neg (by decide)]
    rw [this, if_neg (by decide)] at e2
    rw [e2, Int.ediv_one, wid hn hn', hF1 _ rfl]
    simp [rnd]
  · have q1 : -4611686018427387904 ≤ n / d := by
      refine Int.le_ediv_of_mul_le (by omega) ?_
      omega
    have q2 : n / d ≤ 4611686018427387904 := by
      refine Int.ediv_le_of_le_mul (by omega) ?_
      omega
    by_cases h : Int.tmod n d < 0
    · rw [if_pos h] at e1 e2 ⊢
      rw [wid (x := Int.tdiv n d) (by omega) (by omega), wid (x := Int.tdiv n d - 1) (by omega) (by omega), wid (x := Int.tmod n d + d) (by omega) (by omega), e1, e2, hF _ _ e4 e5 (by omega) (by omega)]; rfl
    · rw [if_neg h] at e1 e2 ⊢
      rw [wid (x := Int.tdiv n d) (by omega) (by omega), e1, e2, hF _ _ e4 e5 (by omega) (by omega)]; rfl
theorem sRound (d q r : Int) (hr : 0 ≤ r) (hrd : r < d) (hd : d ≤ 4611686018427387904) (hq : -9223372036854775808 ≤ q) (hq' : q < 9223372036854775807) : spec_l2Round.f q r d = some (rnd q r d) := round_eq q r d hr hrd hd hq hq'
theorem round_one (q : Int) : (if (0 : Int) > (wrap64 (1 - 0)) then (some (wrap64 (q + 1))) else (if (0 : Int) = (wrap64 (1 - 0)) then (if (Go.bits .and .i64 q 1) = 1 then (some (wrap64 (q + 1))) else (some q)) else (some q))) = some q := by
  rw [wid (x := 1 - 0) (by decide) (by decide)]; rfl
theorem sNear (k : Nat) (n d : Int) (hn : -9223372036854775808 ≤ n) (hn' : n ≤ 9223372036854775807) : spec_Near.f (k + 1) n d = some (nearI n d) := by
  unfold spec_Near.f
  by_cases h1 : d < 1
  · rw [if_pos h1]; simp only [spec_Near.j0, if_true]; unfold nearI; rw [if_pos (.inl h1)]
  · rw [if_neg h1]
    by_cases h2 : d > 4611686018427387904
    · simp only [spec_Near.j0]; unfold nearI; rw [if_pos (by simpa using h2), if_pos (.inr h2)]
    · simp only [spec_Near.j0]; rw [if_neg (by simpa using h2), if_neg (show ¬ d = 0 by omega)]
      exact near_body n d hn hn' (by omega) (by omega) spec_l2Round.f (fun q r a b c e => sRound d q r a b (by omega) c e) (fun q _ => round_one q)
theorem iRound (d q r : Int) (hr : 0 ≤ r) (hrd : r < d) (hd : d ≤ 4611686018427387904) (hq : -9223372036854775808 ≤ q) (hq' : q < 9223372036854775807) : impl_near.f q r d = some (rnd q r d) := round_eq q r d hr hrd hd hq hq'
theorem iround_one (q : Int) : (if (0 : Int) > (wrap64 (1 - 0)) then (some (wrap64 (q + 1))) else (if (0 : Int) = (wrap64 (1 - 0)) then (if (Go.bits .and .i64 q 1) = 1 then (some (wrap64 (q + 1))) else (some q)) else (some q))) = some q := by
  rw [wid (x := 1 - 0) (by decide) (by decide)]; rfl
theorem pow_bd {j : Nat} (h : j ≤ 62) : 1 ≤ (2 : Int) ^ j ∧ (2 : Int) ^ j ≤ 4611686018427387904 := by
  have h1 : (0 : Int) < 2 ^ j := Int.pow_pos (by decide)
  have h2 := Nat.pow_le_pow_right (show 0 < 2 by decide) h
  have h3 : ((2 ^ j : Nat) : Int) ≤ ((2 ^ 62 : Nat) : Int) := by exact_mod_cast h2
  rw [Int.natCast_pow] at h3
  have h4 : (((2 ^ 62 : Nat)) : Int) = 4611686018427387904 := by decide
  rw [h4] at h3
  exact ⟨by omega, h3⟩
theorem pow_split (j : Nat) (h : j ≤ 62) : (2 : Int) ^ (63 - j) * 2 ^ j = 9223372036854775808 := by
  rw [← Int.pow_add, show 63 - j + j = 63 by omega]; decide
theorem shl_one (n : Int) (h0 : 0 ≤ n) (h : n ≤ 62) : shl .i64 1 n = 2 ^ n.toNat := by
  unfold shl
  have : min n.toNat IntKind.i64.bits = n.toNat := Nat.min_eq_left (by show n.toNat ≤ 64; omega)
  have b := pow_bd (j := n.toNat) (by omega)
  rw [this, Int.one_mul, i64_wrap_id _ (by omega) (by omega)]
theorem shr_i64 (x n : Int) (h0 : 0 ≤ n) (h : n ≤ 62) : shr .i64 x n = x / 2 ^ n.toNat := by
  unfold shr
  have : min n.toNat IntKind.i64.bits = n.toNat := Nat.min_eq_left (by show n.toNat ≤ 64; omega)
  rw [this]
def shiftI (n b : Int) : Int := if b < 0 ∨ b > 62 then 0 else nearI n (2 ^ b.toNat)
theorem sShift (k : Nat) (n b : Int) (hn : -9223372036854775808 ≤ n) (hn' : n ≤ 9223372036854775807) : spec_Shift.f (k + 1) n b = some (shiftI n b) := by
  unfold spec_Shift.f shiftI
  by_cases h1 : b < 0
  · rw [if_pos h1, if_pos (.inl h1)]
  · rw [if_neg h1]
    by_cases h2 : b > 62
    · rw [if_pos h2, if_pos (.inr h2)]
    · rw [if_neg h2, if_neg (c := b < 0 ∨ b > 62) (by omega), u64_wrap_id b (by omega) (by omega), if_pos (by omega), shl_one b (by omega) (by omega), sNear k n _ hn hn']; rfl
theorem iShift (n b : Int) (hn : -9223372036854775808 ≤ n) (hn' : n ≤ 9223372036854775807) : impl_Shift.f n b = some (shiftI n b) := by
  unfold impl_Shift.f shiftI
  by_cases h1 : b < 0
  · rw [if_pos h1, if_pos (.inl h1)]
  · rw [if_neg h1]
    by_cases h2 : b > 62
    · rw [if_pos h2, if_pos (.inr h2)]
    · rw [if_neg h2, if_neg (c := b < 0 ∨ b > 62) (by omega), if_pos (by omega), shl_one b (by omega) (by omega), shr_i64 n b (by omega) (by omega)]
      have hp := pow_bd (j := b.toNat) (by omega)
      have hs := pow_split b.toNat (by omega)
      have hq := pow_bd (j := 63 - b.toNat - 1) (by omega)
      unfold nearI
      rw [if_neg (by omega)]
      have e := Int.mul_ediv_add_emod n (2 ^ b.toNat)
      have r0 := Int.emod_nonneg n (show (2 : Int) ^ b.toNat ≠ 0 by omega)
      have r1 := Int.emod_lt_of_pos n (show (0 : Int) < 2 ^ b.toNat by omega)
      have hsl : shl .i64 (n / 2 ^ b.toNat) b = n / 2 ^ b.toNat * 2 ^ b.toNat := by
        unfold shl
        have m : min b.toNat IntKind.i64.bits = b.toNat := Nat.min_eq_left (by show b.toNat ≤ 64; omega)
        rw [m]
        have c := Int.mul_comm (n / 2 ^ b.toNat) (2 ^ b.toNat)
        have lo : -(2 ^ (63 - b.toNat)) ≤ n / 2 ^ b.toNat := Int.le_ediv_of_mul_le (by omega) (by rw [Int.neg_mul]; omega)
        have lo2 := Int.mul_le_mul_of_nonneg_right lo (show (0 : Int) ≤ 2 ^ b.toNat by omega)
        rw [Int.neg_mul] at lo2
        exact i64_wrap_id _ (by omega) (by omega)
      rw [hsl, wid (x := n - _) (by rw [Int.mul_comm]; omega) (by rw [Int.mul_comm]; omega)]
      have e2 : n - n / 2 ^ b.toNat * 2 ^ b.toNat = n % 2 ^ b.toNat := by rw [Int.mul_comm]; omega
      rw [e2]
      by_cases hb0 : b = 0
      · subst hb0
        have t : (0 : Int).toNat = 0 := rfl
        rw [t, Int.pow_zero, Int.ediv_one, Int.emod_one]
        have := iround_one n
        unfold impl_near.f
        rw [this]; simp [rnd]
      · have h2' : (2 : Int) ≤ 2 ^ b.toNat := by
          obtain ⟨j, hj⟩ : ∃ j, b.toNat = j + 1 := ⟨b.toNat - 1, by omega⟩
          rw [hj, Int.pow_succ]
          have := pow_bd (j := j) (by omega)
          omega
        have q1 : -4611686018427387904 ≤ n / 2 ^ b.toNat := Int.le_ediv_of_mul_le (by omega) (by omega)
        have q2 : n / 2 ^ b.toNat ≤ 4611686018427387904 := Int.ediv_le_of_le_mul (by omega) (by omega)
        rw [iRound _ _ _ r0 r1 (by omega) (by omega) (by omega)]; rfl
def clipI (x lo hi : Int) : Int := if x < lo then lo else if x > hi then hi else x
theorem sClip (x lo hi : Int) : spec_l14Clip.f x lo hi = some (clipI x lo hi) := by
  unfold spec_l14Clip.f clipI
  split
  · rfl
  · split <;> rfl
theorem iBring (x lo hi : Int) (h : lo ≤ hi) : impl_bring_int.f x lo hi = some (clipI x lo hi) := by
  unfold impl_bring_int.f clipI mx mn
  congr 1
  repeat' split
  all_goals omega
theorem FnExactRequant (a0 a1 a2 a3 a4 : Int) (_ : (Lit.int .i64 a0).wf = true) (_ : (Lit.int .i64 a1).wf = true) (_ : (Lit.int .i64 a2).wf = true) (_ : (Lit.int .i64 a3).wf = true) (_ : (Lit.int .i64 a4).wf = true) : ∃ k, laws_FnExactRequant.f k a0 a1 a2 a3 a4 = some true := by
  have w : ∀ x, -9223372036854775808 ≤ wrap64 x ∧ wrap64 x ≤ 9223372036854775807 := by intro x; unfold wrap64; omega
  have j : ∀ b, ∃ r, spec_Requant.j0 2 a0 a1 a2 b a3 a4 = some r ∧ impl_Requant.j0 2 a0 a1 a2 b a3 a4 = some r := by
    intro b
    simp only [spec_Requant.j0, impl_Requant.j0]
    rw [sShift 0 _ _ (w _).1 (w _).2, iShift _ _ (w _).1 (w _).2]
    simp only [Option.bind_some, sClip, iBring _ 0 255 (by decide)]
    split <;> exact ⟨_, rfl, rfl⟩
  have key : ∃ r, spec_Requant.f 2 a0 a1 a2 a3 a4 = some r ∧ impl_Requant.f 2 a0 a1 a2 a3 a4 = some r := by
    unfold spec_Requant.f impl_Requant.f
    simp only [sScale, iScale, Option.bind_some, sIn, iIn]
    split
    · split
      · split
        · exact j _
        · exact j _
      · exact j _
    · exact j _
  obtain ⟨r, h1, h2⟩ := key
  refine ⟨2, ?_⟩
  unfold laws_FnExactRequant.f laws_toScale.f
  simp only [Option.bind_some]
  rw [h1, h2]; simp

end Go.Proofs.Ytdocahjdpikakaa.Pure
