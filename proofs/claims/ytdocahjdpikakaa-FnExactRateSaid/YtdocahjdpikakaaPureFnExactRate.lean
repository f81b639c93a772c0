/- laws.FnExactRate: the program's Rate returns what the reference's returns, for every schedule and int. No condition. -/
import Derived.Test.YtdocahjdpikakaaPFnExactRatex2
import Derived.Test.YtdocahjdpikakaaAid
namespace Go.Proofs.Ytdocahjdpikakaa.Pure
open Go.RowKit Go.Proofs.Ytdocahjdpikakaa.PFnExactRate Go.Proofs.YtdocahjdpikakaaW.PrintWords Go.Proofs.YtdocahjdpikakaaW.PrintLast Go.Proofs.YtdocahjdpikakaaW.PrintMore Go.Proofs.Ytdocahjdpikakaa.Aid
set_option linter.unusedVariables false
set_option linter.unusedSimpArgs false
def inB (a b c : Int) : Bool := decide (b ≤ a) && decide (a ≤ c)
theorem inB_iff (a b c : Int) : inB a b c = true ↔ b ≤ a ∧ a ≤ c := by unfold inB; simp
theorem inB_not (a b c : Int) : inB a b c = false ↔ ¬ (b ≤ a ∧ a ≤ c) := by rw [← inB_iff]; simp
theorem in_body (a b c : Int) : (if a ≥ b then (some (decide (a ≤ c))) else (some false)) = some (inB a b c) := by
  unfold inB
  by_cases h : b ≤ a
  · rw [if_pos h]; simp [h]
  · rw [if_neg h]; simp [h]
theorem ite_and (b c : Bool) : (if b = true then some c else some false) = some (b && c) := by cases b <;> rfl
theorem ite_same {α : Type} (b : Bool) (x : α) : (if b = true then x else x) = x := by cases b <;> rfl
theorem sIn (a b c : Int) : spec_l5In.f a b c = some (inB a b c) := in_body a b c
theorem iIn (a b c : Int) : impl_within.f a b c = some (inB a b c) := in_body a b c
def schedB (a b c d : Int) : Bool := inB a 0 16777216 && (inB b 0 a && (inB d 0 1000000 && inB c 0 d))
theorem sched_bd {a b c d : Int} (h : schedB a b c d = true) : 0 ≤ a ∧ a ≤ 16777216 ∧ 0 ≤ b ∧ b ≤ a ∧ 0 ≤ d ∧ d ≤ 1000000 ∧ 0 ≤ c ∧ c ≤ d := by
  unfold schedB at h
  simp only [Bool.and_eq_true, inB_iff] at h
  omega
theorem sSched (a b c d : Int) : spec_SchedOk.f a b c d = some (schedB a b c d) := by
  unfold spec_SchedOk.f schedB
  rw [sIn, sIn, sIn, sIn]; simp only [Option.bind_some, ite_and]
theorem iSched (a b c d : Int) : impl_SchedOk.f a b c d = some (schedB a b c d) := by
  unfold impl_SchedOk.f schedB
  rw [iIn, iIn, iIn, iIn]; simp only [Option.bind_some, ite_and]
/-- A whole number's half rounding: q and a rest r of d. -/
def rnd (q r d : Int) : Int := if r > d - r ∨ (r = d - r ∧ q % 2 = 1) then q + 1 else q
theorem rnd_or (q r d : Int) : rnd q r d = q ∨ rnd q r d = q + 1 := by unfold rnd; split <;> simp
/-- n by d to the nearest whole number, of two the even one. -/
def nearI (n d : Int) : Int := if d < 1 ∨ d > 4611686018427387904 then 0 else rnd (n / d) (n % d) d
theorem round_eq (q r d : Int) (hr : 0 ≤ r) (hrd : r < d) (hd : d ≤ 4611686018427387904) (hq : -9223372036854775808 ≤ q) (hq' : q < 9223372036854775807) :
    (if r > (wrap64 (d - r)) then (some (wrap64 (q + 1))) else (if r = (wrap64 (d - r)) then (if (Go.bits .and .i64 q 1) = 1 then (some (wrap64 (q + 1))) else (some q)) else (some q))) = some (rnd q r d) := by
  rw [wid (x := d - r) (by omega) (by omega), wid (x := q + 1) (by omega) (by omega), and_one]
  unfold rnd
  by_cases h1 : r > d - r
  · rw [if_pos h1, if_pos (.inl h1)]
  · rw [if_neg h1]
    by_cases h2 : r = d - r
    · rw [if_pos h2]
      by_cases h3 : q % 2 = 1
      · rw [if_pos h3, if_pos (.inr ⟨h2, h3⟩)]
      · rw [if_neg h3, if_neg (by omega)]
    · rw [if_neg h2, if_neg (by omega)]
/-- The body of Near, for a d that can be. -/
theorem near_body (n d : Int) (hn : -9223372036854775808 ≤ n) (hn' : n ≤ 9223372036854775807) (h1 : 1 ≤ d) (h2 : d ≤ 4611686018427387904) (F : Int → Int → Int → Option Int)
    (hF : ∀ q r, 0 ≤ r → r < d → -9223372036854775808 ≤ q → q < 9223372036854775807 → F q r d = some (rnd q r d)) (hF1 : ∀ q, d = 1 → F q 0 1 = some q) :
    (if (Int.tmod n d) < 0 then ((F (wrap64 ((wrap64 (Int.tdiv n d)) - 1)) (wrap64 ((Int.tmod n d) + d)) d).bind fun t101 => (some t101)) else ((F (wrap64 (Int.tdiv n d)) (Int.tmod n d) d).bind fun t102 => (some t102))) = some (nearI n d) := by
  have e1 := tmod_fix n d (by omega)
  have e2 := tdiv_fix n d (by omega)
  have e3 := tmod_bd n d (by omega)
  have e4 := Int.emod_nonneg n (show d ≠ 0 by omega)
  have e5 := Int.emod_lt_of_pos n (show 0 < d by omega)
  have eN : nearI n d = rnd (n / d) (n % d) d := by unfold nearI; rw [if_neg (by omega)]
  rw [eN]
  by_cases hd : d = 1
  · subst hd
    have : Int.tmod n 1 = 0 := by omega
    rw [this, if_neg (by decide)]
    rw [this, if_neg (by decide)] at e2
    rw [e2, Int.ediv_one, wid hn hn', hF1 _ rfl]
    simp [rnd]
  · have q1 : -4611686018427387904 ≤ n / d := by
      refine Int.le_ediv_of_mul_le (by omega) ?_
      omega
    have q2 : n / d ≤ 4611686018427387904 := by
      refine Int.ediv_le_of_le_mul (by omega) ?_
      omega
    by_cases h : Int.tmod n d < 0
    · rw [if_pos h] at e1 e2 ⊢
      rw [wid (x := Int.tdiv n d) (by omega) (by omega), wid (x := Int.tdiv n d - 1) (by omega) (by omega), wid (x := Int.tmod n d + d) (by omega) (by omega), e1, e2, hF _ _ e4 e5 (by omega) (by omega)]; rfl
    · rw [if_neg h] at e1 e2 ⊢
      rw [wid (x := Int.tdiv n d) (by omega) (by omega), e1, e2, hF _ _ e4 e5 (by omega) (by omega)]; rfl
theorem sRound (d q r : Int) (hr : 0 ≤ r) (hrd : r < d) (hd : d ≤ 4611686018427387904) (hq : -9223372036854775808 ≤ q) (hq' : q < 9223372036854775807) : spec_l2Round.f q r d = some (rnd q r d) := round_eq q r d hr hrd hd hq hq'
theorem round_one (q : Int) : (if (0 : Int) > (wrap64 (1 - 0)) then (some (wrap64 (q + 1))) else (if (0 : Int) = (wrap64 (1 - 0)) then (if (Go.bits .and .i64 q 1) = 1 then (some (wrap64 (q + 1))) else (some q)) else (some q))) = some q := by
  rw [wid (x := 1 - 0) (by decide) (by decide)]; rfl
theorem sNear (k : Nat) (n d : Int) (hn : -9223372036854775808 ≤ n) (hn' : n ≤ 9223372036854775807) : spec_Near.f (k + 1) n d = some (nearI n d) := by
  unfold spec_Near.f
  by_cases h1 : d < 1
  · rw [if_pos h1]; simp only [spec_Near.j0, if_true]; unfold nearI; rw [if_pos (.inl h1)]
  · rw [if_neg h1]
    by_cases h2 : d > 4611686018427387904
    · simp only [spec_Near.j0]; unfold nearI; rw [if_pos (by simpa using h2), if_pos (.inr h2)]
    · simp only [spec_Near.j0]; rw [if_neg (by simpa using h2), if_neg (show ¬ d = 0 by omega)]
      exact near_body n d hn hn' (by omega) (by omega) spec_l2Round.f (fun q r a b c e => sRound d q r a b (by omega) c e) (fun q _ => round_one q)
theorem iRound (d q r : Int) (hr : 0 ≤ r) (hrd : r < d) (hd : d ≤ 4611686018427387904) (hq : -9223372036854775808 ≤ q) (hq' : q < 9223372036854775807) : impl_near.f q r d = some (rnd q r d) := round_eq q r d hr hrd hd hq hq'
theorem iround_one (q : Int) : (if (0 : Int) > (wrap64 (1 - 0)) then (some (wrap64 (q + 1))) else (if (0 : Int) = (wrap64 (1 - 0)) then (if (Go.bits .and .i64 q 1) = 1 then (some (wrap64 (q + 1))) else (some q)) else (some q))) = some q := by
  rw [wid (x := 1 - 0) (by decide) (by decide)]; rfl
theorem iNear (k : Nat) (n d : Int) (hn : -9223372036854775808 ≤ n) (hn' : n ≤ 9223372036854775807) : impl_Near.f (k + 1) n d = some (nearI n d) := by
  unfold impl_Near.f
  by_cases h1 : d < 1
  · rw [if_pos h1]; simp only [impl_Near.j0, if_true]; unfold nearI; rw [if_pos (.inl h1)]
  · rw [if_neg h1]
    by_cases h2 : d > 4611686018427387904
    · simp only [impl_Near.j0]; unfold nearI; rw [if_pos (by simpa using h2), if_pos (.inr h2)]
    · simp only [impl_Near.j0]; rw [if_neg (by simpa using h2), if_neg (show ¬ d = 0 by omega)]
      exact near_body n d hn hn' (by omega) (by omega) impl_near.f (fun q r a b c e => iRound d q r a b (by omega) c e) (fun q _ => iround_one q)
theorem FnExactRate (a0 a1 a2 a3 a4 : Int) (_ : (Lit.int .i64 a0).wf = true) (_ : (Lit.int .i64 a1).wf = true) (_ : (Lit.int .i64 a2).wf = true) (_ : (Lit.int .i64 a3).wf = true) (_ : (Lit.int .i64 a4).wf = true) : ∃ k, laws_FnExactRate.f k a0 a1 a2 a3 a4 = some true := by
  have key : ∃ r, spec_Rate.f 2 a0 a1 a2 a3 a4 = some r ∧ impl_Rate.f 2 a0 a1 a2 a3 a4 = some r := by
    unfold spec_Rate.f impl_Rate.f
    simp only [sSched, iSched, Option.bind_some, sIn, iIn]
    by_cases h1 : schedB a0 a1 a2 a3 = true
    · rw [if_pos h1, if_pos h1]
      have w : ∀ x, -9223372036854775808 ≤ wrap64 x ∧ wrap64 x ≤ 9223372036854775807 := by intro x; unfold wrap64; omega
      by_cases h2 : inB a4 0 10000000 = true
      · rw [h2]
        simp only [spec_Rate.j0, impl_Rate.j0]
        rw [sNear 0 _ _ (w _).1 (w _).2, iNear 0 _ _ (w _).1 (w _).2, sNear 0 _ _ (w _).1 (w _).2, iNear 0 _ _ (w _).1 (w _).2]
        simp only [Option.bind_some, Bool.not_true, Bool.false_eq_true, if_false]
        split
        · exact ⟨_, rfl, rfl⟩
        · split <;> exact ⟨_, rfl, rfl⟩
      · rw [Bool.not_eq_true] at h2; rw [h2]; exact ⟨_, rfl, rfl⟩
    · rw [if_neg h1, if_neg h1]; exact ⟨_, rfl, rfl⟩
  obtain ⟨r, h1, h2⟩ := key
  refine ⟨2, ?_⟩
  unfold laws_FnExactRate.f laws_toSched.f
  simp only [Option.bind_some]
  rw [h1, h2]; simp

end Go.Proofs.Ytdocahjdpikakaa.Pure
