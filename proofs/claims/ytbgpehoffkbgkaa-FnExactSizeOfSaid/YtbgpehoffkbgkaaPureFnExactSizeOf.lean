/- laws.FnExactSizeOf: the program's SizeOf returns what the reference's returns, for every list of ints. No condition. -/
import Derived.Test.YtbgpehoffkbgkaaPFnExactSizeOfx2
import Derived.Test.YtbgpehoffkbgkaaAid
import Derived.Test.YtbgpehoffkbgkaaLoop
namespace Go.Proofs.Ytbgpehoffkbgkaa.Pure
open Go.RowKit Go.Proofs.Ytbgpehoffkbgkaa.PFnExactSizeOf Go.Proofs.YtbgpehoffkbgkaaW.PrintWords Go.Proofs.YtbgpehoffkbgkaaW.PrintLast Go.Proofs.YtbgpehoffkbgkaaW.PrintMore Go.Proofs.Ytbgpehoffkbgkaa.Aid
set_option linter.unusedVariables false
set_option linter.unusedSimpArgs false
theorem rd_nat (l : List Int) (i : Nat) : rd l (i : Int) = l.getD i 0 := by unfold rd; rw [Int.toNat_natCast]
theorem toIntS_loop (l : List Int) (hl : l.length ≤ 1048576) : ∀ (d i k : Nat) (y : List Int), i + d = l.length → d < k → y.length = l.length → (∀ j, j < i → y.getD j 0 = l.getD j 0) → laws_toIntS.l0 k l y i = some l := by
  intro d
  induction d with
  | zero =>
    intro i k y h hk hy hj
    obtain ⟨k, rfl⟩ : ∃ m, k = m + 1 := ⟨k - 1, by omega⟩
    simp only [laws_toIntS.l0]
    rw [if_neg (by omega)]
    congr 1
    refine List.ext_getElem hy fun j h1 h2 => ?_
    have := hj j (by omega)
    rwa [Loop.getD_lt _ _ _ h1, Loop.getD_lt _ _ _ h2] at this
  | succ d ih =>
    intro i k y h hk hy hj
    obtain ⟨k, rfl⟩ : ∃ m, k = m + 1 := ⟨k - 1, by omega⟩
    simp only [laws_toIntS.l0]
    rw [if_pos (by omega), if_pos (by omega), if_pos (by omega), Loop.wsucc i (by omega), Int.toNat_natCast, rd_nat]
    refine ih (i + 1) k _ (by omega) (by omega) (by simpa using hy) fun j h1 => ?_
    by_cases e : j = i
    · rw [e, Loop.getD_set_eq _ _ _ _ (by omega)]
    · rw [Loop.getD_set_ne _ _ _ _ _ e]; exact hj j (by omega)
theorem toIntS_ok (l : List Int) (hl : l.length ≤ 1048576) (k : Nat) (hk : l.length < k) : laws_toIntS.f k l = some l := by
  unfold laws_toIntS.f
  rw [if_pos (by omega), Int.toNat_natCast, if_pos (by omega)]
  exact toIntS_loop l hl l.length 0 k _ (by omega) hk (by simp) (by intro j h; omega)
theorem eqIntS_loop (l : List Int) (hl : l.length ≤ 1048576) : ∀ (d i k : Nat), i + d = l.length → d < k → laws_eqIntS.l0 k l l i = some true := by
  intro d
  induction d with
  | zero =>
    intro i k h hk
    obtain ⟨k, rfl⟩ : ∃ m, k = m + 1 := ⟨k - 1, by omega⟩
    simp only [laws_eqIntS.l0]
    rw [if_neg (by omega)]
  | succ d ih =>
    intro i k h hk
    obtain ⟨k, rfl⟩ : ∃ m, k = m + 1 := ⟨k - 1, by omega⟩
    simp only [laws_eqIntS.l0]
    rw [if_pos (by omega), if_pos (by omega), if_pos (by omega), if_pos trivial, Loop.wsucc i (by omega)]
    exact ih (i + 1) k (by omega) (by omega)
theorem eqIntS_ok (l : List Int) (hl : l.length ≤ 1048576) (k : Nat) (hk : l.length < k) : laws_eqIntS.f k l l = some true := by
  unfold laws_eqIntS.f
  rw [if_pos rfl]
  exact eqIntS_loop l hl l.length 0 k (by omega) hk
/-- One round over the lengths: the product so far, or the end. -/
def dimStep (l : List Int) (i : Nat) (n : Int) : Option Int ⊕ Int :=
  if l.getD i 0 < 1 ∨ l.getD i 0 > 4096 ∨ wrap64 (n * l.getD i 0) > 4096 then .inl none else .inr (wrap64 (n * l.getD i 0))
/-- The product of the lengths, none where one is wrong or it becomes too great. -/
def dimI (l : List Int) : Option Int := Loop.runIx (dimStep l) some l.length 0 1
theorem sSize_loop (l : List Int) (hl : l.length ≤ 1048576) : ∀ (d i k : Nat) (n : Int), i + d = l.length → (d + 1) * 2 ≤ k → spec_l3Size.l0 k l n i = some ((Loop.runIx (dimStep l) some d i n).getD 0) := by
  intro d
  induction d with
  | zero =>
    intro i k n h hk
    obtain ⟨k, rfl⟩ : ∃ m, k = m + 1 := ⟨k - 1, by omega⟩
    simp only [spec_l3Size.l0]
    rw [if_neg (by omega)]; rfl
  | succ d ih =>
    intro i k n h hk
    obtain ⟨k, rfl⟩ : ∃ m, k = m + 2 := ⟨k - 2, by omega⟩
    simp only [spec_l3Size.l0, spec_l3Size.j1, Loop.runIx]
    rw [if_pos (show (i : Int) < (l.length : Int) by omega), if_pos (show 0 ≤ (i : Int) by omega), rd_nat, Loop.wsucc i (by omega)]
    by_cases h1 : l.getD i 0 < 1
    · have : dimStep l i n = .inl none := by unfold dimStep; rw [if_pos (.inl h1)]
      rw [if_pos h1, this]; rfl
    · rw [if_neg h1]
      by_cases h2 : l.getD i 0 > 4096
      · have : dimStep l i n = .inl none := by unfold dimStep; rw [if_pos (.inr (.inl h2))]
        rw [this, if_pos (by simpa using h2)]; rfl
      · rw [if_neg (by simpa using h2), if_pos (by omega), if_pos (show (i : Int) < (l.length : Int) by omega)]
        by_cases h3 : wrap64 (n * l.getD i 0) > 4096
        · have : dimStep l i n = .inl none := by unfold dimStep; rw [if_pos (.inr (.inr h3))]
          rw [if_pos h3, this]; rfl
        · have : dimStep l i n = .inr (wrap64 (n * l.getD i 0)) := by unfold dimStep; rw [if_neg (fun c => c.elim h1 (fun c => c.elim h2 h3))]
          rw [if_neg h3, this]
          exact ih (i + 1) k _ (by omega) (by omega)
theorem sSize (l : List Int) (hl : l.length ≤ 1048576) (k : Nat) (hk : (l.length + 1) * 2 ≤ k) : spec_l3Size.f k l = some ((dimI l).getD 0) :=
  sSize_loop l hl l.length 0 k 1 (by omega) hk
/-- A product that is there is 1 .. 4096. -/
theorem dim_bd (l : List Int) (x : Int) (h : dimI l = some x) : 1 ≤ x ∧ x ≤ 4096 := by
  have key := Loop.run_inv (dimStep l) some (fun _ n => 1 ≤ n ∧ n ≤ 4096) (fun r => ∀ x, r = some x → 1 ≤ x ∧ x ≤ 4096) l.length
    (by intro i s r _ _ e x hx
        unfold dimStep at e
        split at e
        · cases e; cases hx
        · cases e)
    (by intro i s s' _ hI e
        unfold dimStep at e
        split at e
        · cases e
        · rename_i c
          cases e
          have a1 : 1 ≤ l.getD i 0 ∧ l.getD i 0 ≤ 4096 := by omega
          have a2 : 1 ≤ s * l.getD i 0 := by
            have := Int.mul_le_mul hI.1 a1.1 (by decide) (by omega)
            omega
          have a3 : s * l.getD i 0 ≤ 16777216 := by
            have := Int.mul_le_mul hI.2 a1.2 (by omega) (by decide)
            omega
          rw [wid (by omega) (by omega)] at c ⊢
          omega)
    (by intro s hI x hx; cases hx; exact hI) l.length 0 1 (by omega) ⟨by decide, by decide⟩
  exact key x h
def dimsB (l : List Int) : Bool := decide ((l.length : Int) ≤ 6) && (dimI l).isSome
theorem sDims (l : List Int) (hl : l.length ≤ 1048576) (k : Nat) (hk : (l.length + 1) * 2 ≤ k) : spec_DimsOk.f k l = some (dimsB l) := by
  unfold spec_DimsOk.f dimsB
  by_cases c : (l.length : Int) ≤ 6
  · rw [if_pos c, sSize l hl k hk]; simp only [Option.bind_some]
    cases e : dimI l with
    | none => simp
    | some x => have := dim_bd l x e; simp [c]; omega
  · rw [if_neg c]; simp [c]
theorem iDims_loop (l : List Int) (hl : l.length ≤ 1048576) : ∀ (d i k : Nat) (n : Int), i + d = l.length → (d + 1) * 2 ≤ k → impl_DimsOk.l0 k l n l l.length i = some ((Loop.runIx (dimStep l) some d i n).isSome && decide ((l.length : Int) ≤ 6)) := by
  intro d
  induction d with
  | zero =>
    intro i k n h hk
    obtain ⟨k, rfl⟩ : ∃ m, k = m + 1 := ⟨k - 1, by omega⟩
    simp only [impl_DimsOk.l0]
    rw [if_neg (by omega)]; simp [Loop.runIx]
  | succ d ih =>
    intro i k n h hk
    obtain ⟨k, rfl⟩ : ∃ m, k = m + 2 := ⟨k - 2, by omega⟩
    simp only [impl_DimsOk.l0, impl_DimsOk.j1, Loop.runIx]
    rw [if_pos (show (i : Int) < (l.length : Int) by omega), if_pos (show 0 ≤ (i : Int) by omega), if_pos (show (i : Int) < (l.length : Int) by omega), rd_nat, Loop.wsucc i (by omega)]
    by_cases h1 : l.getD i 0 < 1
    · have : dimStep l i n = .inl none := by unfold dimStep; rw [if_pos (.inl h1)]
      rw [if_pos h1, this]; rfl
    · rw [if_neg h1]
      by_cases h2 : l.getD i 0 > 4096
      · have : dimStep l i n = .inl none := by unfold dimStep; rw [if_pos (.inr (.inl h2))]
        rw [this, if_pos (by simpa using h2)]; rfl
      · rw [if_neg (by simpa using h2)]
        by_cases h3 : wrap64 (n * l.getD i 0) > 4096
        · have : dimStep l i n = .inl none := by unfold dimStep; rw [if_pos (.inr (.inr h3))]
          rw [if_pos h3, this]; rfl
        · have : dimStep l i n = .inr (wrap64 (n * l.getD i 0)) := by unfold dimStep; rw [if_neg (fun c => c.elim h1 (fun c => c.elim h2 h3))]
          rw [if_neg h3, this]
          exact ih (i + 1) k _ (by omega) (by omega)
theorem iDims (l : List Int) (hl : l.length ≤ 1048576) (k : Nat) (hk : (l.length + 1) * 2 ≤ k) : impl_DimsOk.f k l = some (dimsB l) := by
  unfold impl_DimsOk.f dimsB
  rw [show impl_DimsOk.l0 k l 1 l l.length 0 = _ from iDims_loop l hl l.length 0 k 1 (by omega) hk, Bool.and_comm]; rfl
theorem iProd_loop (l : List Int) (hl : l.length ≤ 1048576) : ∀ (d i k : Nat) (n x : Int), i + d = l.length → d < k → Loop.runIx (dimStep l) some d i n = some x → impl_product.l0 k n l l.length i = some x := by
  intro d
  induction d with
  | zero =>
    intro i k n x h hk e
    obtain ⟨k, rfl⟩ : ∃ m, k = m + 1 := ⟨k - 1, by omega⟩
    simp only [impl_product.l0]
    rw [if_neg (by omega)]; exact e
  | succ d ih =>
    intro i k n x h hk e
    obtain ⟨k, rfl⟩ : ∃ m, k = m + 1 := ⟨k - 1, by omega⟩
    simp only [impl_product.l0]
    rw [if_pos (show (i : Int) < (l.length : Int) by omega), if_pos (show 0 ≤ (i : Int) by omega), if_pos (show (i : Int) < (l.length : Int) by omega), rd_nat, Loop.wsucc i (by omega)]
    simp only [Loop.runIx] at e
    by_cases c : l.getD i 0 < 1 ∨ l.getD i 0 > 4096 ∨ wrap64 (n * l.getD i 0) > 4096
    · have : dimStep l i n = .inl none := by unfold dimStep; rw [if_pos c]
      rw [this] at e; cases e
    · have : dimStep l i n = .inr (wrap64 (n * l.getD i 0)) := by unfold dimStep; rw [if_neg c]
      rw [this] at e
      exact ih (i + 1) k _ x (by omega) (by omega) e
theorem iProd (l : List Int) (hl : l.length ≤ 1048576) (k : Nat) (hk : l.length < k) (x : Int) (h : dimI l = some x) : impl_product.f k l = some x :=
  iProd_loop l hl l.length 0 k 1 x (by omega) hk h
theorem FnExactSizeOf (l : List Int) (_ : l.length ≤ maxLen) (_ : ∀ x ∈ l, (Lit.int .i64 x).wf = true) : ∃ k, laws_FnExactSizeOf.f k l = some true := by
  refine ⟨(l.length + 1) * 2, ?_⟩
  unfold laws_FnExactSizeOf.f
  by_cases c : (l.length : Int) > 1048576
  · rw [if_pos c]
  · rw [if_neg c, toIntS_ok l (by omega) _ (by omega)]
    simp only [Option.bind_some]
    have key : ∃ r, spec_SizeOf.f ((l.length + 1) * 2) l = some r ∧ impl_SizeOf.f ((l.length + 1) * 2) l = some r := by
      unfold spec_SizeOf.f impl_SizeOf.f
      rw [sDims l (by omega) _ (by omega), iDims l (by omega) _ (by omega)]
      simp only [Option.bind_some]
      by_cases d : dimsB l = true
      · rw [if_pos d, if_pos d, sSize l (by omega) _ (by omega)]
        have : ∃ x, dimI l = some x := by
          unfold dimsB at d
          rw [Bool.and_eq_true] at d
          exact Option.isSome_iff_exists.1 d.2
        obtain ⟨x, hx⟩ := this
        rw [iProd l (by omega) _ (by omega) x hx, hx]
        exact ⟨x, rfl, rfl⟩
      · rw [if_neg d, if_neg d]; exact ⟨_, rfl, rfl⟩
    obtain ⟨r, e1, e2⟩ := key
    rw [e1, e2, eqIntS_ok l (by omega) _ (by omega)]
    simp

end Go.Proofs.Ytbgpehoffkbgkaa.Pure
