/- laws.FnExactCalibrate: the program's Calibrate returns what the reference's returns, for every list of ints. No condition. -/
import Derived.Test.YtbgpehoffkbgkaaPFnExactCalibratex3
import Derived.Test.YtbgpehoffkbgkaaAid
import Derived.Test.YtbgpehoffkbgkaaLoop
namespace Go.Proofs.Ytbgpehoffkbgkaa.Pure
open Go.RowKit Go.Proofs.Ytbgpehoffkbgkaa.PFnExactCalibrate Go.Proofs.YtbgpehoffkbgkaaW.PrintWords Go.Proofs.YtbgpehoffkbgkaaW.PrintLast Go.Proofs.YtbgpehoffkbgkaaW.PrintMore Go.Proofs.Ytbgpehoffkbgkaa.Aid
set_option linter.unusedVariables false
set_option linter.unusedSimpArgs false
def inB (a b c : Int) : Bool := decide (b ≤ a) && decide (a ≤ c)
theorem inB_iff (a b c : Int) : inB a b c = true ↔ b ≤ a ∧ a ≤ c := by unfold inB; simp
theorem inB_not (a b c : Int) : inB a b c = false ↔ ¬ (b ≤ a ∧ a ≤ c) := by rw [← inB_iff]; simp
theorem in_body (a b c : Int) : (if a ≥ b then (some (decide (a ≤ c))) else (some false)) = some (inB a b c) := by
  unfold inB
  by_cases h : b ≤ a
  · rw [if_pos h]; simp [h]
  · rw [if_neg h]; simp [h]
theorem ite_and (b c : Bool) : (if b = true then some c else some false) = some (b && c) := by cases b <;> rfl
theorem ite_same {α : Type} (b : Bool) (x : α) : (if b = true then x else x) = x := by cases b <;> rfl
theorem sIn (a b c : Int) : spec_l5In.f a b c = some (inB a b c) := in_body a b c
theorem iIn (a b c : Int) : impl_within.f a b c = some (inB a b c) := in_body a b c
theorem rd_nat (l : List Int) (i : Nat) : rd l (i : Int) = l.getD i 0 := by unfold rd; rw [Int.toNat_natCast]
theorem toIntS_loop (l : List Int) (hl : l.length ≤ 1048576) : ∀ (d i k : Nat) (y : List Int), i + d = l.length → d < k → y.length = l.length → (∀ j, j < i → y.getD j 0 = l.getD j 0) → laws_toIntS.l0 k l y i = some l := by
  intro d
  induction d with
  | zero =>
    intro i k y h hk hy hj
    obtain ⟨k, rfl⟩ : ∃ m, k = m + 1 := ⟨k - 1, by omega⟩
    simp only [laws_toIntS.l0]
    rw [if_neg (by omega)]
    congr 1
    refine List.ext_getElem hy fun j h1 h2 => ?_
    have := hj j (by omega)
    rwa [Loop.getD_lt _ _ _ h1, Loop.getD_lt _ _ _ h2] at this
  | succ d ih =>
    intro i k y h hk hy hj
    obtain ⟨k, rfl⟩ : ∃ m, k = m + 1 := ⟨k - 1, by omega⟩
    simp only [laws_toIntS.l0]
    rw [if_pos (by omega), if_pos (by omega), if_pos (by omega), Loop.wsucc i (by omega), Int.toNat_natCast, rd_nat]
    refine ih (i + 1) k _ (by omega) (by omega) (by simpa using hy) fun j h1 => ?_
    by_cases e : j = i
    · rw [e, Loop.getD_set_eq _ _ _ _ (by omega)]
    · rw [Loop.getD_set_ne _ _ _ _ _ e]; exact hj j (by omega)
theorem toIntS_ok (l : List Int) (hl : l.length ≤ 1048576) (k : Nat) (hk : l.length < k) : laws_toIntS.f k l = some l := by
  unfold laws_toIntS.f
  rw [if_pos (by omega), Int.toNat_natCast, if_pos (by omega)]
  exact toIntS_loop l hl l.length 0 k _ (by omega) hk (by simp) (by intro j h; omega)
theorem eqIntS_loop (l : List Int) (hl : l.length ≤ 1048576) : ∀ (d i k : Nat), i + d = l.length → d < k → laws_eqIntS.l0 k l l i = some true := by
  intro d
  induction d with
  | zero =>
    intro i k h hk
    obtain ⟨k, rfl⟩ : ∃ m, k = m + 1 := ⟨k - 1, by omega⟩
    simp only [laws_eqIntS.l0]
    rw [if_neg (by omega)]
  | succ d ih =>
    intro i k h hk
    obtain ⟨k, rfl⟩ : ∃ m, k = m + 1 := ⟨k - 1, by omega⟩
    simp only [laws_eqIntS.l0]
    rw [if_pos (by omega), if_pos (by omega), if_pos (by omega), if_pos trivial, Loop.wsucc i (by omega)]
    exact ih (i + 1) k (by omega) (by omega)
theorem eqIntS_ok (l : List Int) (hl : l.length ≤ 1048576) (k : Nat) (hk : l.length < k) : laws_eqIntS.f k l l = some true := by
  unfold laws_eqIntS.f
  rw [if_pos rfl]
  exact eqIntS_loop l hl l.length 0 k (by omega) hk
/-- A whole number's half rounding: q and a rest r of d. -/
def rnd (q r d : Int) : Int := if r > d - r ∨ (r = d - r ∧ q % 2 = 1) then q + 1 else q
theorem rnd_or (q r d : Int) : rnd q r d = q ∨ rnd q r d = q + 1 := by unfold rnd; split <;> simp
/-- n by d to the nearest whole number, of two the even one. -/
def nearI (n d : Int) : Int := if d < 1 ∨ d > 4611686018427387904 then 0 else rnd (n / d) (n % d) d
theorem round_eq (q r d : Int) (hr : 0 ≤ r) (hrd : r < d) (hd : d ≤ 4611686018427387904) (hq : -9223372036854775808 ≤ q) (hq' : q < 9223372036854775807) :
    (if r > (wrap64 (d - r)) then (some (wrap64 (q + 1))) else (if r = (wrap64 (d - r)) then (if (Go.bits .and .i64 q 1) = 1 then (some (wrap64 (q + 1))) else (some q)) else (some q))) = some (rnd q r d) := by
  rw [wid (x := d - r) (by omega) (by omega), wid (x := q + 1) (by omega) (by omega), and_one]
  unfold rnd
  by_cases h1 : r > d - r
  · rw [if_pos h1, if_pos (.inl h1)]
  · rw [if_neg h1]
    by_cases h2 : r = d - r
    · rw [if_pos h2]
      by_cases h3 : q % 2 = 1
      · rw [if_pos h3, if_pos (.inr ⟨h2, h3⟩)]
      · rw [if_neg h3, if_neg (by omega)]
    · rw [if_neg h2, if_neg (by omega)]
/-- The body of Near, for a d that can be. -/
theorem near_body (n d : Int) (hn : -9223372036854775808 ≤ n) (hn' : n ≤ 9223372036854775807) (h1 : 1 ≤ d) (h2 : d ≤ 4611686018427387904) (F : Int → Int → Int → Option Int)
    (hF : ∀ q r, 0 ≤ r → r < d → -9223372036854775808 ≤ q → q < 9223372036854775807 → F q r d = some (rnd q r d)) (hF1 : ∀ q, d = 1 → F q 0 1 = some q) :
    (if (Int.tmod n d) < 0 then ((F (wrap64 ((wrap64 (Int.tdiv n d)) - 1)) (wrap64 ((Int.tmod n d) + d)) d).bind fun t101 => (some t101)) else ((F (wrap64 (Int.tdiv n d)) (Int.tmod n d) d).bind fun t102 => (some t102))) = some (nearI n d) := by
  have e1 := tmod_fix n d (by omega)
  have e2 := tdiv_fix n d (by omega)
  have e3 := tmod_bd n d (by omega)
  have e4 := Int.emod_nonneg n (show d ≠ 0 by omega)
  have e5 := Int.emod_lt_of_pos n (show 0 < d by omega)
  have eN : nearI n d = rnd (n / d) (n % d) d := by unfold nearI; rw [if_neg (by omega)]
  rw [eN]
  by_cases hd : d = 1
  · subst hd
    have : Int.tmod n 1 = 0 := by omega
    rw [this, if_neg (by decide)]
    rw [this, if_neg (by decide)] at e2
    rw [e2, Int.ediv_one, wid hn hn', hF1 _ rfl]
    simp [rnd]
  · have q1 : -4611686018427387904 ≤ n / d := by
      refine Int.le_ediv_of_mul_le (by omega) ?_
      omega
    have q2 : n / d ≤ 4611686018427387904 := by
      refine Int.ediv_le_of_le_mul (by omega) ?_
      omega
    by_cases h : Int.tmod n d < 0
    · rw [if_pos h] at e1 e2 ⊢
      rw [wid (x := Int.tdiv n d) (by omega) (by omega), wid (x := Int.tdiv n d - 1) (by omega) (by omega), wid (x := Int.tmod n d + d) (by omega) (by omega), e1, e2, hF _ _ e4 e5 (by omega) (by omega)]; rfl
    · rw [if_neg h] at e1 e2 ⊢
      rw [wid (x := Int.tdiv n d) (by omega) (by omega), e1, e2, hF _ _ e4 e5 (by omega) (by omega)]; rfl
theorem sRound (d q r : Int) (hr : 0 ≤ r) (hrd : r < d) (hd : d ≤ 4611686018427387904) (hq : -9223372036854775808 ≤ q) (hq' : q < 9223372036854775807) : spec_l2Round.f q r d = some (rnd q r d) := round_eq q r d hr hrd hd hq hq'
theorem round_one (q : Int) : (if (0 : Int) > (wrap64 (1 - 0)) then (some (wrap64 (q + 1))) else (if (0 : Int) = (wrap64 (1 - 0)) then (if (Go.bits .and .i64 q 1) = 1 then (some (wrap64 (q + 1))) else (some q)) else (some q))) = some q := by
  rw [wid (x := 1 - 0) (by decide) (by decide)]; rfl
theorem sNear (k : Nat) (n d : Int) (hn : -9223372036854775808 ≤ n) (hn' : n ≤ 9223372036854775807) : spec_Near.f (k + 1) n d = some (nearI n d) := by
  unfold spec_Near.f
  by_cases h1 : d < 1
  · rw [if_pos h1]; simp only [spec_Near.j0, if_true]; unfold nearI; rw [if_pos (.inl h1)]
  · rw [if_neg h1]
    by_cases h2 : d > 4611686018427387904
    · simp only [spec_Near.j0]; unfold nearI; rw [if_pos (by simpa using h2), if_pos (.inr h2)]
    · simp only [spec_Near.j0]; rw [if_neg (by simpa using h2), if_neg (show ¬ d = 0 by omega)]
      exact near_body n d hn hn' (by omega) (by omega) spec_l2Round.f (fun q r a b c e => sRound d q r a b (by omega) c e) (fun q _ => round_one q)
theorem iRound (d q r : Int) (hr : 0 ≤ r) (hrd : r < d) (hd : d ≤ 4611686018427387904) (hq : -9223372036854775808 ≤ q) (hq' : q < 9223372036854775807) : impl_near.f q r d = some (rnd q r d) := round_eq q r d hr hrd hd hq hq'
theorem iround_one (q : Int) : (if (0 : Int) > (wrap64 (1 - 0)) then (some (wrap64 (q + 1))) else (if (0 : Int) = (wrap64 (1 - 0)) then (if (Go.bits .and .i64 q 1) = 1 then (some (wrap64 (q + 1))) else (some q)) else (some q))) = some q := by
  rw [wid (x := 1 - 0) (by decide) (by decide)]; rfl
theorem iNear (k : Nat) (n d : Int) (hn : -9223372036854775808 ≤ n) (hn' : n ≤ 9223372036854775807) : impl_Near.f (k + 1) n d = some (nearI n d) := by
  unfold impl_Near.f
  by_cases h1 : d < 1
  · rw [if_pos h1]; simp only [impl_Near.j0, if_true]; unfold nearI; rw [if_pos (.inl h1)]
  · rw [if_neg h1]
    by_cases h2 : d > 4611686018427387904
    · simp only [impl_Near.j0]; unfold nearI; rw [if_pos (by simpa using h2), if_pos (.inr h2)]
    · simp only [impl_Near.j0]; rw [if_neg (by simpa using h2), if_neg (show ¬ d = 0 by omega)]
      exact near_body n d hn hn' (by omega) (by omega) impl_near.f (fun q r a b c e => iRound d q r a b (by omega) c e) (fun q _ => iround_one q)
def realP (l : List Int) (i : Nat) : Bool := inB (l.getD i 0) (-1099511627776) 1099511627776
def realB (l : List Int) : Bool := Loop.allB (realP l) l.length 0 && (decide ((l.length : Int) > 0) && decide ((l.length : Int) ≤ 4096))
theorem real_end (l : List Int) : (if (l.length : Int) > 0 then (some (decide ((l.length : Int) ≤ 4096))) else (some false)) = some ((decide ((l.length : Int) > 0) && decide ((l.length : Int) ≤ 4096))) := by
  by_cases h : (l.length : Int) > 0
  · rw [if_pos h, decide_eq_true h, Bool.true_and]
  · rw [if_neg h, decide_eq_false h, Bool.false_and]
theorem sreal (l : List Int) (hl : l.length ≤ 1048576) (k : Nat) (hk : l.length < k) : spec_l14Reals.f k l = some (realB l) := by
  have h := Loop.all_ix (fun k i => spec_l14Reals.l0 k l i) l.length 1 0 (realP l) (some false) (if (l.length : Int) > 0 then (some (decide ((l.length : Int) ≤ 4096))) else (some false))
    (by intro k i _ hi
        simp only [spec_l14Reals.l0, spec_l14Real.f, sIn, Option.bind_some]
        rw [if_pos (show (i : Int) < (l.length : Int) by omega), if_pos (show 0 ≤ (i : Int) by omega), rd_nat, Loop.wsucc i (by omega)]
        rfl)
    (by intro k _; simp only [spec_l14Reals.l0]; rw [if_neg (by omega)])
    l.length 0 k (by omega) (by omega)
  unfold spec_l14Reals.f
  rw [show spec_l14Reals.l0 k l 0 = _ from h]
  unfold realB
  have e := real_end l
  rw [e]
  cases Loop.allB (realP l) l.length 0 <;> rfl
theorem ireal (l : List Int) (hl : l.length ≤ 1048576) (k : Nat) (hk : l.length < k) : impl_realsOk.f k l = some (realB l) := by
  have h := Loop.all_ix (fun k i => impl_realsOk.l0 k l l l.length i) l.length 1 0 (realP l) (some false) (if (l.length : Int) > 0 then (some (decide ((l.length : Int) ≤ 4096))) else (some false))
    (by intro k i _ hi
        simp only [impl_realsOk.l0, impl_isReal.f, iIn, Option.bind_some]
        rw [if_pos (show (i : Int) < (l.length : Int) by omega), if_pos (show 0 ≤ (i : Int) by omega), if_pos (show (i : Int) < (l.length : Int) by omega), rd_nat, Loop.wsucc i (by omega)]
        rfl)
    (by intro k _; simp only [impl_realsOk.l0]; rw [if_neg (by omega)])
    l.length 0 k (by omega) (by omega)
  unfold impl_realsOk.f
  rw [show impl_realsOk.l0 k l l l.length 0 = _ from h]
  unfold realB
  have e := real_end l
  rw [e]
  cases Loop.allB (realP l) l.length 0 <;> rfl
def calS (l : List Int) (i : Nat) (s : Int × Int) : Option (Int × Int × Bool) ⊕ (Int × Int) := .inr (mn s.1 (l.getD i 0), mx s.2 (l.getD i 0))
def stepI (s : Int × Int) : Int := mx 1 (wrap64 (Int.tdiv (wrap64 ((wrap64 (s.2 - s.1)) + 254)) 255))
def calF (s : Int × Int) : Option (Int × Int × Bool) := some (stepI s, nearI (wrap64 (-s.1)) (stepI s), true)
theorem w64 (x : Int) : -9223372036854775808 ≤ wrap64 x ∧ wrap64 x ≤ 9223372036854775807 := by unfold wrap64; omega
theorem sCalLoop (l : List Int) (hl : l.length ≤ 1048576) (k : Nat) (hk : l.length + 1 < k) : spec_Calibrate.l0 k l 0 0 0 = Loop.runIx (calS l) calF l.length 0 (0, 0) := by
  have h := Loop.run_ix (fun k i (s : Int × Int) => spec_Calibrate.l0 k l s.1 s.2 i) l.length 1 1 (calS l) calF
    (by intro k i s _ hi
        simp only [spec_Calibrate.l0]
        rw [if_pos (show (i : Int) < (l.length : Int) by omega), if_pos (show 0 ≤ (i : Int) by omega), rd_nat, Loop.wsucc i (by omega)]
        simp only [calS, mn, mx]
        by_cases c1 : l.getD i 0 < s.1
        · rw [if_pos c1, if_pos c1]
          by_cases c2 : l.getD i 0 > s.2
          · rw [if_pos c2, if_pos (show s.2 < l.getD i 0 from c2)]
          · rw [if_neg c2, if_neg (show ¬ s.2 < l.getD i 0 from c2)]
        · rw [if_neg c1, if_neg c1]
          by_cases c2 : l.getD i 0 > s.2
          · rw [if_pos c2, if_pos (show s.2 < l.getD i 0 from c2)]
          · rw [if_neg c2, if_neg (show ¬ s.2 < l.getD i 0 from c2)])
    (by intro k s hk
        obtain ⟨k, rfl⟩ : ∃ m, k = m + 1 := ⟨k - 1, by omega⟩
        simp only [spec_Calibrate.l0]
        rw [if_neg (by omega), sNear k _ _ (w64 _).1 (w64 _).2, sNear k _ _ (w64 _).1 (w64 _).2]
        simp only [Option.bind_some]
        unfold calF stepI mx
        generalize wrap64 (Int.tdiv (wrap64 ((wrap64 (s.2 - s.1)) + 254)) 255) = v
        by_cases c : v < 1
        · rw [if_pos c, if_neg (by omega)]
        · rw [if_neg c]
          by_cases c' : 1 < v
          · rw [if_pos c']
          · rw [if_neg c']; have : v = 1 := by omega
            rw [this])
    l.length 0 k (0, 0) (by omega) (by omega)
  exact h
theorem iCalLoop (l : List Int) (hl : l.length ≤ 1048576) (k : Nat) (hk : l.length + 1 < k) : impl_Calibrate.l0 k 0 0 l l.length 0 = Loop.runIx (calS l) calF l.length 0 (0, 0) := by
  have h := Loop.run_ix (fun k i (s : Int × Int) => impl_Calibrate.l0 k s.1 s.2 l l.length i) l.length 1 1 (calS l) calF
    (by intro k i s _ hi
        simp only [impl_Calibrate.l0]
        rw [if_pos (show (i : Int) < (l.length : Int) by omega), if_pos (show 0 ≤ (i : Int) by omega), if_pos (show (i : Int) < (l.length : Int) by omega), rd_nat, Loop.wsucc i (by omega)]
        rfl)
    (by intro k s hk
        obtain ⟨k, rfl⟩ : ∃ m, k = m + 1 := ⟨k - 1, by omega⟩
        simp only [impl_Calibrate.l0]
        rw [if_neg (by omega), iNear k _ _ (w64 _).1 (w64 _).2]; rfl)
    l.length 0 k (0, 0) (by omega) (by omega)
  exact h
theorem FnExactCalibrate (l : List Int) (_ : l.length ≤ maxLen) (_ : ∀ x ∈ l, (Lit.int .i64 x).wf = true) : ∃ k, laws_FnExactCalibrate.f k l = some true := by
  refine ⟨l.length + 3, ?_⟩
  unfold laws_FnExactCalibrate.f
  by_cases c : (l.length : Int) > 1048576
  · rw [if_pos c]
  · rw [if_neg c, toIntS_ok l (by omega) _ (by omega)]
    simp only [Option.bind_some]
    have key : ∃ r, spec_Calibrate.f (l.length + 3) l = some r ∧ impl_Calibrate.f (l.length + 3) l = some r := by
      unfold spec_Calibrate.f impl_Calibrate.f
      rw [sreal l (by omega) _ (by omega), ireal l (by omega) _ (by omega), sCalLoop l (by omega) _ (by omega), iCalLoop l (by omega) _ (by omega)]
      simp only [Option.bind_some]
      obtain ⟨x, hx⟩ := Loop.run_some (calS l) calF (by intro i s r h; cases h) (fun s => ⟨_, rfl⟩) l.length 0 (0, 0)
      rw [hx]
      cases realB l <;> exact ⟨_, rfl, rfl⟩
    obtain ⟨r, e1, e2⟩ := key
    rw [e1, e2]; simp only [Option.bind_some]
    have es : laws_eqScale.f r.1 r.2.1 r.1 r.2.1 = some true := by simp [laws_eqScale.f]
    rw [es]; simp only [Option.bind_some, laws_FnExactCalibrate.j0]
    rw [toIntS_ok l (by omega) _ (by omega)]; simp only [Option.bind_some]
    rw [eqIntS_ok l (by omega) _ (by omega)]
    simp

end Go.Proofs.Ytbgpehoffkbgkaa.Pure
