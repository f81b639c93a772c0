/- laws.FnExactNear: the program's Near returns what the reference's Near returns, for every two ints. No condition. -/
import Derived.Test.YtnefaadcokniiaaPFnExactNearx1
import Derived.Test.YtnefaadcokniiaaAid
namespace Go.Proofs.Ytnefaadcokniiaa.Pure
open Go.RowKit Go.Proofs.Ytnefaadcokniiaa.PFnExactNear Go.Proofs.YtnefaadcokniiaaW.PrintWords Go.Proofs.YtnefaadcokniiaaW.PrintLast Go.Proofs.Ytnefaadcokniiaa.Aid
/-- A whole number's half rounding: q and a rest r of d. -/
def rnd (q r d : Int) : Int := if r > d - r ∨ (r = d - r ∧ q % 2 = 1) then q + 1 else q
theorem rnd_or (q r d : Int) : rnd q r d = q ∨ rnd q r d = q + 1 := by unfold rnd; split <;> simp
/-- n by d to the nearest whole number, of two the even one. -/
def nearI (n d : Int) : Int := if d < 1 ∨ d > 4611686018427387904 then 0 else rnd (n / d) (n % d) d
theorem round_eq (q r d : Int) (hr : 0 ≤ r) (hrd : r < d) (hd : d ≤ 4611686018427387904) (hq : -9223372036854775808 ≤ q) (hq' : q < 9223372036854775807) :
    (if r > (wrap64 (d - r)) then (some (wrap64 (q + 1))) else (if r = (wrap64 (d - r)) then (if (Go.bits .and .i64 q 1) = 1 then (some (wrap64 (q + 1))) else (some q)) else (some q))) = some (rnd q r d) := by
  rw [wid (x := d - r) (by omega) (by omega), wid (x := q + 1) (by omega) (by omega), and_one]
  unfold rnd
  by_cases h1 : r > d - r
  · rw [if_pos h1, if_pos (.inl h1)]
  · rw [if_neg h1]
    by_cases h2 : r = d - r
    · rw [if_pos h2]
      by_cases h3 : q % 2 = 1
      · rw [if_pos h3, if_pos (.inr ⟨h2, h3⟩)]
      · rw [if_neg h3, if_neg (by omega)]
    · rw [if_neg h2, if_neg (by omega)]
/-- The body of Near, for a d that can be. -/
theorem near_body (n d : Int) (hn : -9223372036854775808 ≤ n) (hn' : n ≤ 9223372036854775807) (h1 : 1 ≤ d) (h2 : d ≤ 4611686018427387904) (F : Int → Int → Int → Option Int)
    (hF : ∀ q r, 0 ≤ r → r < d → -9223372036854775808 ≤ q → q < 9223372036854775807 → F q r d = some (rnd q r d)) (hF1 : ∀ q, d = 1 → F q 0 1 = some q) :
    (if (Int.tmod n d) < 0 then ((F (wrap64 ((wrap64 (Int.tdiv n d)) - 1)) (wrap64 ((Int.tmod n d) + d)) d).bind fun t101 => (some t101)) else ((F (wrap64 (Int.tdiv n d)) (Int.tmod n d) d).bind fun t102 => (some t102))) = some (nearI n d) := by
  have e1 := tmod_fix n d (by omega)
  have e2 := tdiv_fix n d (by omega)
  have e3 := tmod_bd n d (by omega)
  have e4 := Int.emod_nonneg n (show d ≠ 0 by omega)
  have e5 := Int.emod_lt_of_pos n (show 0 < d by omega)
  have eN : nearI n d = rnd (n / d) (n % d) d := by unfold nearI; rw [if_neg (by omega)]
  rw [eN]
  by_cases hd : d = 1
  · subst hd
    have : Int.tmod n 1 = 0 := by omega
    rw [this, if_neg (by decide)]
    rw [this, if_neg (by decide)] at e2
    rw [e2, Int.ediv_one, wid hn hn', hF1 _ rfl]
    simp [rnd]
  · have q1 : -4611686018427387904 ≤ n / d := by
      refine Int.le_ediv_of_mul_le (by omega) ?_
      omega
    have q2 : n / d ≤ 4611686018427387904 := by
      refine Int.ediv_le_of_le_mul (by omega) ?_
      omega
    by_cases h : Int.tmod n d < 0
    · rw [if_pos h] at e1 e2 ⊢
      rw [wid (x := Int.tdiv n d) (by omega) (by omega), wid (x := Int.tdiv n d - 1) (by omega) (by omega), wid (x := Int.tmod n d + d) (by omega) (by omega), e1, e2, hF _ _ e4 e5 (by omega) (by omega)]; rfl
    · rw [if_neg h] at e1 e2 ⊢
      rw [wid (x := Int.tdiv n d) (by omega) (by omega), e1, e2, hF _ _ e4 e5 (by omega) (by omega)]; rfl
theorem sRound (d q r : Int) (hr : 0 ≤ r) (hrd : r < d) (hd : d ≤ 4611686018427387904) (hq : -9223372036854775808 ≤ q) (hq' : q < 9223372036854775807) : spec_l2Round.f q r d = some (rnd q r d) := round_eq q r d hr hrd hd hq hq'
theorem round_one (q : Int) : (if (0 : Int) > (wrap64 (1 - 0)) then (some (wrap64 (q + 1))) else (if (0 : Int) = (wrap64 (1 - 0)) then (if (Go.bits .and .i64 q 1) = 1 then (some (wrap64 (q + 1))) else (some q)) else (some q))) = some q := by
  rw [wid (x := 1 - 0) (by decide) (by decide)]; rfl
theorem sNear (n d : Int) (hn : -9223372036854775808 ≤ n) (hn' : n ≤ 9223372036854775807) : spec_Near.f 1 n d = some (nearI n d) := by
  unfold spec_Near.f
  by_cases h1 : d < 1
  · rw [if_pos h1]; simp only [spec_Near.j0, if_true]; unfold nearI; rw [if_pos (.inl h1)]
  · rw [if_neg h1]
    by_cases h2 : d > 4611686018427387904
    · simp only [spec_Near.j0]; unfold nearI; rw [if_pos (by simpa using h2), if_pos (.inr h2)]
    · simp only [spec_Near.j0]; rw [if_neg (by simpa using h2), if_neg (show ¬ d = 0 by omega)]
      exact near_body n d hn hn' (by omega) (by omega) spec_l2Round.f (fun q r a b c e => sRound d q r a b (by omega) c e) (fun q _ => round_one q)
theorem iRound (d q r : Int) (hr : 0 ≤ r) (hrd : r < d) (hd : d ≤ 4611686018427387904) (hq : -9223372036854775808 ≤ q) (hq' : q < 9223372036854775807) : impl_near.f q r d = some (rnd q r d) := round_eq q r d hr hrd hd hq hq'
theorem iround_one (q : Int) : (if (0 : Int) > (wrap64 (1 - 0)) then (some (wrap64 (q + 1))) else (if (0 : Int) = (wrap64 (1 - 0)) then (if (Go.bits .and .i64 q 1) = 1 then (some (wrap64 (q + 1))) else (some q)) else (some q))) = some q := by
  rw [wid (x := 1 - 0) (by decide) (by decide)]; rfl
theorem iNear (n d : Int) (hn : -9223372036854775808 ≤ n) (hn' : n ≤ 9223372036854775807) : impl_Near.f 1 n d = some (nearI n d) := by
  unfold impl_Near.f
  by_cases h1 : d < 1
  · rw [if_pos h1]; simp only [impl_Near.j0, if_true]; unfold nearI; rw [if_pos (.inl h1)]
  · rw [if_neg h1]
    by_cases h2 : d > 4611686018427387904
    · simp only [impl_Near.j0]; unfold nearI; rw [if_pos (by simpa using h2), if_pos (.inr h2)]
    · simp only [impl_Near.j0]; rw [if_neg (by simpa using h2), if_neg (show ¬ d = 0 by omega)]
      exact near_body n d hn hn' (by omega) (by omega) impl_near.f (fun q r a b c e => iRound d q r a b (by omega) c e) (fun q _ => iround_one q)
theorem FnExactNear : laws_FnExactNear.Pure := by
  intro a b ha _
  refine ⟨1, ?_⟩
  unfold laws_FnExactNear.f
  rw [sNear a b (wf_lo ha) (wf_hi ha), iNear a b (wf_lo ha) (wf_hi ha)]; simp

end Go.Proofs.Ytnefaadcokniiaa.Pure
