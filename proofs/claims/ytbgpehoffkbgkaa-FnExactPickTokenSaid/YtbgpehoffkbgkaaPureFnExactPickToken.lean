/- laws.FnExactPickToken: the program's PickToken returns what the reference's returns, for every list of ints and int. No condition. -/
import Derived.Test.YtbgpehoffkbgkaaPFnExactPickTokenx2
import Derived.Test.YtbgpehoffkbgkaaAid
import Derived.Test.YtbgpehoffkbgkaaLoop
namespace Go.Proofs.Ytbgpehoffkbgkaa.Pure
open Go.RowKit Go.Proofs.Ytbgpehoffkbgkaa.PFnExactPickToken Go.Proofs.YtbgpehoffkbgkaaW.PrintWords Go.Proofs.YtbgpehoffkbgkaaW.PrintLast Go.Proofs.YtbgpehoffkbgkaaW.PrintMore Go.Proofs.Ytbgpehoffkbgkaa.Aid
set_option linter.unusedVariables false
set_option linter.unusedSimpArgs false
def inB (a b c : Int) : Bool := decide (b ≤ a) && decide (a ≤ c)
theorem inB_iff (a b c : Int) : inB a b c = true ↔ b ≤ a ∧ a ≤ c := by unfold inB; simp
theorem inB_not (a b c : Int) : inB a b c = false ↔ ¬ (b ≤ a ∧ a ≤ c) := by rw [← inB_iff]; simp
theorem in_body (a b c : Int) : (if a ≥ b then (some (decide (a ≤ c))) else (some false)) = some (inB a b c) := by
  unfold inB
  by_cases h : b ≤ a
  · rw [if_pos h]; simp [h]
  · rw [if_neg h]; simp [h]
theorem ite_and (b c : Bool) : (if b = true then some c else some false) = some (b && c) := by cases b <;> rfl
theorem ite_same {α : Type} (b : Bool) (x : α) : (if b = true then x else x) = x := by cases b <;> rfl
theorem sIn (a b c : Int) : spec_l5In.f a b c = some (inB a b c) := in_body a b c
theorem iIn (a b c : Int) : impl_within.f a b c = some (inB a b c) := in_body a b c
theorem rd_nat (l : List Int) (i : Nat) : rd l (i : Int) = l.getD i 0 := by unfold rd; rw [Int.toNat_natCast]
theorem toIntS_loop (l : List Int) (hl : l.length ≤ 1048576) : ∀ (d i k : Nat) (y : List Int), i + d = l.length → d < k → y.length = l.length → (∀ j, j < i → y.getD j 0 = l.getD j 0) → laws_toIntS.l0 k l y i = some l := by
  intro d
  induction d with
  | zero =>
    intro i k y h hk hy hj
    obtain ⟨k, rfl⟩ : ∃ m, k = m + 1 := ⟨k - 1, by omega⟩
    simp only [laws_toIntS.l0]
    rw [if_neg (by omega)]
    congr 1
    refine List.ext_getElem hy fun j h1 h2 => ?_
    have := hj j (by omega)
    rwa [Loop.getD_lt _ _ _ h1, Loop.getD_lt _ _ _ h2] at this
  | succ d ih =>
    intro i k y h hk hy hj
    obtain ⟨k, rfl⟩ : ∃ m, k = m + 1 := ⟨k - 1, by omega⟩
    simp only [laws_toIntS.l0]
    rw [if_pos (by omega), if_pos (by omega), if_pos (by omega), Loop.wsucc i (by omega), Int.toNat_natCast, rd_nat]
    refine ih (i + 1) k _ (by omega) (by omega) (by simpa using hy) fun j h1 => ?_
    by_cases e : j = i
    · rw [e, Loop.getD_set_eq _ _ _ _ (by omega)]
    · rw [Loop.getD_set_ne _ _ _ _ _ e]; exact hj j (by omega)
theorem toIntS_ok (l : List Int) (hl : l.length ≤ 1048576) (k : Nat) (hk : l.length < k) : laws_toIntS.f k l = some l := by
  unfold laws_toIntS.f
  rw [if_pos (by omega), Int.toNat_natCast, if_pos (by omega)]
  exact toIntS_loop l hl l.length 0 k _ (by omega) hk (by simp) (by intro j h; omega)
theorem eqIntS_loop (l : List Int) (hl : l.length ≤ 1048576) : ∀ (d i k : Nat), i + d = l.length → d < k → laws_eqIntS.l0 k l l i = some true := by
  intro d
  induction d with
  | zero =>
    intro i k h hk
    obtain ⟨k, rfl⟩ : ∃ m, k = m + 1 := ⟨k - 1, by omega⟩
    simp only [laws_eqIntS.l0]
    rw [if_neg (by omega)]
  | succ d ih =>
    intro i k h hk
    obtain ⟨k, rfl⟩ : ∃ m, k = m + 1 := ⟨k - 1, by omega⟩
    simp only [laws_eqIntS.l0]
    rw [if_pos (by omega), if_pos (by omega), if_pos (by omega), if_pos trivial, Loop.wsucc i (by omega)]
    exact ih (i + 1) k (by omega) (by omega)
theorem eqIntS_ok (l : List Int) (hl : l.length ≤ 1048576) (k : Nat) (hk : l.length < k) : laws_eqIntS.f k l l = some true := by
  unfold laws_eqIntS.f
  rw [if_pos rfl]
  exact eqIntS_loop l hl l.length 0 k (by omega) hk
def wP (l : List Int) (i : Nat) : Bool := inB (l.getD i 0) 0 1048576
def pickS (l : List Int) (a : Int) (i : Nat) (s : Int) : Option Int ⊕ Int := if wrap64 (s + l.getD i 0) > a then .inl (some (i : Int)) else .inr (wrap64 (s + l.getD i 0))
def pickI (l : List Int) (a : Int) : Option Int := Loop.runIx (pickS l a) (fun _ => some (-1)) l.length 0 0
theorem sPick1 (l : List Int) (a : Int) (hl : l.length ≤ 1048576) (k : Nat) (hk : l.length < k) : spec_PickToken.l1 k l a 0 0 = pickI l a := by
  have h := Loop.run_ix (fun k i s => spec_PickToken.l1 k l a s i) l.length 1 0 (pickS l a) (fun _ => some (-1))
    (by intro k i s _ hi
        simp only [spec_PickToken.l1]
        rw [if_pos (show (i : Int) < (l.length : Int) by omega), if_pos (show 0 ≤ (i : Int) by omega), rd_nat, Loop.wsucc i (by omega)]
        unfold pickS
        split <;> rfl)
    (by intro k s _; simp only [spec_PickToken.l1]; rw [if_neg (by omega)])
    l.length 0 k 0 (by omega) (by omega)
  exact h
theorem iPick1 (l : List Int) (a : Int) (hl : l.length ≤ 1048576) (k : Nat) (hk : l.length < k) : impl_PickToken.l0 k a 0 l l.length 0 = pickI l a := by
  have h := Loop.run_ix (fun k i s => impl_PickToken.l0 k a s l l.length i) l.length 1 0 (pickS l a) (fun _ => some (-1))
    (by intro k i s _ hi
        simp only [impl_PickToken.l0]
        rw [if_pos (show (i : Int) < (l.length : Int) by omega), if_pos (show 0 ≤ (i : Int) by omega), if_pos (show (i : Int) < (l.length : Int) by omega), rd_nat, Loop.wsucc i (by omega)]
        unfold pickS
        split <;> rfl)
    (by intro k s _; simp only [impl_PickToken.l0]; rw [if_neg (by omega)])
    l.length 0 k 0 (by omega) (by omega)
  exact h
theorem sPick0 (l : List Int) (a : Int) (hl : l.length ≤ 1048576) (k : Nat) (hk : 2 * l.length + 1 < k) : spec_PickToken.l0 k l a 0 = if Loop.allB (wP l) l.length 0 = true then pickI l a else some (-1) := by
  have h := Loop.all_ix (fun k i => spec_PickToken.l0 k l a i) l.length 1 (l.length + 1) (wP l) (some (-1)) (pickI l a)
    (by intro k i _ hi
        simp only [spec_PickToken.l0, sIn, Option.bind_some]
        rw [if_pos (show (i : Int) < (l.length : Int) by omega), if_pos (show 0 ≤ (i : Int) by omega), rd_nat, Loop.wsucc i (by omega)]
        rfl)
    (by intro k hk; simp only [spec_PickToken.l0]; rw [if_neg (by omega), sPick1 l a hl k (by omega)])
    l.length 0 k (by omega) (by omega)
  exact h
theorem iAll (l : List Int) (hl : l.length ≤ 1048576) (k : Nat) (hk : l.length < k) : impl_allWithin.f k l 0 1048576 = some (Loop.allB (wP l) l.length 0) := by
  have h := Loop.all_ix (fun k i => impl_allWithin.l0 k 0 1048576 l l.length i) l.length 1 0 (wP l) (some false) (some true)
    (by intro k i _ hi
        simp only [impl_allWithin.l0, iIn, Option.bind_some]
        rw [if_pos (show (i : Int) < (l.length : Int) by omega), if_pos (show 0 ≤ (i : Int) by omega), if_pos (show (i : Int) < (l.length : Int) by omega), rd_nat, Loop.wsucc i (by omega)]
        rfl)
    (by intro k _; simp only [impl_allWithin.l0]; rw [if_neg (by omega)])
    l.length 0 k (by omega) (by omega)
  unfold impl_allWithin.f
  rw [show impl_allWithin.l0 k 0 1048576 l l.length 0 = _ from h]
  cases Loop.allB (wP l) l.length 0 <;> rfl
theorem FnExactPickToken (l : List Int) (a : Int) (_ : l.length ≤ maxLen) (_ : ∀ x ∈ l, (Lit.int .i64 x).wf = true) (_ : (Lit.int .i64 a).wf = true) : ∃ k, laws_FnExactPickToken.f k l a = some true := by
  refine ⟨2 * l.length + 4, ?_⟩
  unfold laws_FnExactPickToken.f
  by_cases c : (l.length : Int) > 1048576
  · rw [if_pos c]
  · rw [if_neg c, toIntS_ok l (by omega) _ (by omega)]
    simp only [Option.bind_some]
    have key : ∃ r, spec_PickToken.f (2 * l.length + 4) l a = some r ∧ impl_PickToken.f (2 * l.length + 4) l a = some r := by
      unfold spec_PickToken.f impl_PickToken.f
      by_cases c1 : (l.length : Int) > 64
      · rw [if_pos c1, if_pos c1]; exact ⟨-1, rfl, rfl⟩
      · rw [if_neg c1, if_neg c1, iAll l (by omega) _ (by omega)]
        simp only [Option.bind_some, spec_PickToken.j0, impl_PickToken.j0]
        rw [sPick0 l a (by omega) _ (by omega), iPick1 l a (by omega) _ (by omega)]
        obtain ⟨x, hx⟩ := Loop.run_some (pickS l a) (fun _ => some (-1)) (by intro i s r h; unfold pickS at h; split at h <;> cases h; exact ⟨_, rfl⟩) (fun s => ⟨_, rfl⟩) l.length 0 0
        have hx' : pickI l a = some x := hx
        rw [hx']
        cases Loop.allB (wP l) l.length 0 <;> cases decide (a < 0) <;> exact ⟨_, rfl, rfl⟩
    obtain ⟨r, e1, e2⟩ := key
    rw [e1, e2, eqIntS_ok l (by omega) _ (by omega)]
    simp

end Go.Proofs.Ytbgpehoffkbgkaa.Pure
