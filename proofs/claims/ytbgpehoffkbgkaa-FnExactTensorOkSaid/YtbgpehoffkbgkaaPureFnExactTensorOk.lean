/- laws.FnExactTensorOk: the program's TensorOk returns what the reference's returns, for every tensor. No condition. -/
import Derived.Test.YtbgpehoffkbgkaaPFnExactTensorOkx3
import Derived.Test.YtbgpehoffkbgkaaAid
import Derived.Test.YtbgpehoffkbgkaaLoop
namespace Go.Proofs.Ytbgpehoffkbgkaa.Pure
open Go.RowKit Go.Proofs.Ytbgpehoffkbgkaa.PFnExactTensorOk Go.Proofs.YtbgpehoffkbgkaaW.PrintWords Go.Proofs.YtbgpehoffkbgkaaW.PrintLast Go.Proofs.YtbgpehoffkbgkaaW.PrintMore Go.Proofs.Ytbgpehoffkbgkaa.Aid
set_option linter.unusedVariables false
set_option linter.unusedSimpArgs false
def inB (a b c : Int) : Bool := decide (b ≤ a) && decide (a ≤ c)
theorem inB_iff (a b c : Int) : inB a b c = true ↔ b ≤ a ∧ a ≤ c := by unfold inB; simp
theorem inB_not (a b c : Int) : inB a b c = false ↔ ¬ (b ≤ a ∧ a ≤ c) := by rw [← inB_iff]; simp
theorem in_body (a b c : Int) : (if a ≥ b then (some (decide (a ≤ c))) else (some false)) = some (inB a b c) := by
  unfold inB
  by_cases h : b ≤ a
  · rw [if_pos h]; simp [h]
  · rw [if_neg h]; simp [h]
theorem ite_and (b c : Bool) : (if b = true then some c else some false) = some (b && c) := by cases b <;> rfl
theorem ite_same {α : Type} (b : Bool) (x : α) : (if b = true then x else x) = x := by cases b <;> rfl
theorem rd_nat (l : List Int) (i : Nat) : rd l (i : Int) = l.getD i 0 := by unfold rd; rw [Int.toNat_natCast]
theorem toIntS_loop (l : List Int) (hl : l.length ≤ 1048576) : ∀ (d i k : Nat) (y : List Int), i + d = l.length → d < k → y.length = l.length → (∀ j, j < i → y.getD j 0 = l.getD j 0) → laws_toIntS.l0 k l y i = some l := by
  intro d
  induction d with
  | zero =>
    intro i k y h hk hy hj
    obtain ⟨k, rfl⟩ : ∃ m, k = m + 1 := ⟨k - 1, by omega⟩
    simp only [laws_toIntS.l0]
    rw [if_neg (by omega)]
    congr 1
    refine List.ext_getElem hy fun j h1 h2 => ?_
    have := hj j (by omega)
    rwa [Loop.getD_lt _ _ _ h1, Loop.getD_lt _ _ _ h2] at this
  | succ d ih =>
    intro i k y h hk hy hj
    obtain ⟨k, rfl⟩ : ∃ m, k = m + 1 := ⟨k - 1, by omega⟩
    simp only [laws_toIntS.l0]
    rw [if_pos (by omega), if_pos (by omega), if_pos (by omega), Loop.wsucc i (by omega), Int.toNat_natCast, rd_nat]
    refine ih (i + 1) k _ (by omega) (by omega) (by simpa using hy) fun j h1 => ?_
    by_cases e : j = i
    · rw [e, Loop.getD_set_eq _ _ _ _ (by omega)]
    · rw [Loop.getD_set_ne _ _ _ _ _ e]; exact hj j (by omega)
theorem toIntS_ok (l : List Int) (hl : l.length ≤ 1048576) (k : Nat) (hk : l.length < k) : laws_toIntS.f k l = some l := by
  unfold laws_toIntS.f
  rw [if_pos (by omega), Int.toNat_natCast, if_pos (by omega)]
  exact toIntS_loop l hl l.length 0 k _ (by omega) hk (by simp) (by intro j h; omega)
theorem eqIntS_loop (l : List Int) (hl : l.length ≤ 1048576) : ∀ (d i k : Nat), i + d = l.length → d < k → laws_eqIntS.l0 k l l i = some true := by
  intro d
  induction d with
  | zero =>
    intro i k h hk
    obtain ⟨k, rfl⟩ : ∃ m, k = m + 1 := ⟨k - 1, by omega⟩
    simp only [laws_eqIntS.l0]
    rw [if_neg (by omega)]
  | succ d ih =>
    intro i k h hk
    obtain ⟨k, rfl⟩ : ∃ m, k = m + 1 := ⟨k - 1, by omega⟩
    simp only [laws_eqIntS.l0]
    rw [if_pos (by omega), if_pos (by omega), if_pos (by omega), if_pos trivial, Loop.wsucc i (by omega)]
    exact ih (i + 1) k (by omega) (by omega)
theorem eqIntS_ok (l : List Int) (hl : l.length ≤ 1048576) (k : Nat) (hk : l.length < k) : laws_eqIntS.f k l l = some true := by
  unfold laws_eqIntS.f
  rw [if_pos rfl]
  exact eqIntS_loop l hl l.length 0 k (by omega) hk
/-- One round over the lengths: the product so far, or the end. -/
def dimStep (l : List Int) (i : Nat) (n : Int) : Option Int ⊕ Int :=
  if l.getD i 0 < 1 ∨ l.getD i 0 > 4096 ∨ wrap64 (n * l.getD i 0) > 4096 then .inl none else .inr (wrap64 (n * l.getD i 0))
/-- The product of the lengths, none where one is wrong or it becomes too great. -/
def dimI (l : List Int) : Option Int := Loop.runIx (dimStep l) some l.length 0 1
theorem sSize_loop (l : List Int) (hl : l.length ≤ 1048576) : ∀ (d i k : Nat) (n : Int), i + d = l.length → (d + 1) * 2 ≤ k → spec_l3Size.l0 k l n i = some ((Loop.runIx (dimStep l) some d i n).getD 0) := by
  intro d
  induction d with
  | zero =>
    intro i k n h hk
    obtain ⟨k, rfl⟩ : ∃ m, k = m + 1 := ⟨k - 1, by omega⟩
    simp only [spec_l3Size.l0]
    rw [if_neg (by omega)]; rfl
  | succ d ih =>
    intro i k n h hk
    obtain ⟨k, rfl⟩ : ∃ m, k = m + 2 := ⟨k - 2, by omega⟩
    simp only [spec_l3Size.l0, spec_l3Size.j1, Loop.runIx]
    rw [if_pos (show (i : Int) < (l.length : Int) by omega), if_pos (show 0 ≤ (i : Int) by omega), rd_nat, Loop.wsucc i (by omega)]
    by_cases h1 : l.getD i 0 < 1
    · have : dimStep l i n = .inl none := by unfold dimStep; rw [if_pos (.inl h1)]
      rw [if_pos h1, this]; rfl
    · rw [if_neg h1]
      by_cases h2 : l.getD i 0 > 4096
      · have : dimStep l i n = .inl none := by unfold dimStep; rw [if_pos (.inr (.inl h2))]
        rw [this, if_pos (by simpa using h2)]; rfl
      · rw [if_neg (by simpa using h2), if_pos (by omega), if_pos (show (i : Int) < (l.length : Int) by omega)]
        by_cases h3 : wrap64 (n * l.getD i 0) > 4096
        · have : dimStep l i n = .inl none := by unfold dimStep; rw [if_pos (.inr (.inr h3))]
          rw [if_pos h3, this]; rfl
        · have : dimStep l i n = .inr (wrap64 (n * l.getD i 0)) := by unfold dimStep; rw [if_neg (fun c => c.elim h1 (fun c => c.elim h2 h3))]
          rw [if_neg h3, this]
          exact ih (i + 1) k _ (by omega) (by omega)
theorem sSize (l : List Int) (hl : l.length ≤ 1048576) (k : Nat) (hk : (l.length + 1) * 2 ≤ k) : spec_l3Size.f k l = some ((dimI l).getD 0) :=
  sSize_loop l hl l.length 0 k 1 (by omega) hk
/-- A product that is there is 1 .. 4096. -/
theorem dim_bd (l : List Int) (x : Int) (h : dimI l = some x) : 1 ≤ x ∧ x ≤ 4096 := by
  have key := Loop.run_inv (dimStep l) some (fun _ n => 1 ≤ n ∧ n ≤ 4096) (fun r => ∀ x, r = some x → 1 ≤ x ∧ x ≤ 4096) l.length
    (by intro i s r _ _ e x hx
        unfold dimStep at e
        split at e
        · cases e; cases hx
        · cases e)
    (by intro i s s' _ hI e
        unfold dimStep at e
        split at e
        · cases e
        · rename_i c
          cases e
          have a1 : 1 ≤ l.getD i 0 ∧ l.getD i 0 ≤ 4096 := by omega
          have a2 : 1 ≤ s * l.getD i 0 := by
            have := Int.mul_le_mul hI.1 a1.1 (by decide) (by omega)
            omega
          have a3 : s * l.getD i 0 ≤ 16777216 := by
            have := Int.mul_le_mul hI.2 a1.2 (by omega) (by decide)
            omega
          rw [wid (by omega) (by omega)] at c ⊢
          omega)
    (by intro s hI x hx; cases hx; exact hI) l.length 0 1 (by omega) ⟨by decide, by decide⟩
  exact key x h
def dimsB (l : List Int) : Bool := decide ((l.length : Int) ≤ 6) && (dimI l).isSome
theorem sDims (l : List Int) (hl : l.length ≤ 1048576) (k : Nat) (hk : (l.length + 1) * 2 ≤ k) : spec_DimsOk.f k l = some (dimsB l) := by
  unfold spec_DimsOk.f dimsB
  by_cases c : (l.length : Int) ≤ 6
  · rw [if_pos c, sSize l hl k hk]; simp only [Option.bind_some]
    cases e : dimI l with
    | none => simp
    | some x => have := dim_bd l x e; simp [c]; omega
  · rw [if_neg c]; simp [c]
theorem iDims_loop (l : List Int) (hl : l.length ≤ 1048576) : ∀ (d i k : Nat) (n : Int), i + d = l.length → (d + 1) * 2 ≤ k → impl_DimsOk.l0 k l n l l.length i = some ((Loop.runIx (dimStep l) some d i n).isSome && decide ((l.length : Int) ≤ 6)) := by
  intro d
  induction d with
  | zero =>
    intro i k n h hk
    obtain ⟨k, rfl⟩ : ∃ m, k = m + 1 := ⟨k - 1, by omega⟩
    simp only [impl_DimsOk.l0]
    rw [if_neg (by omega)]; simp [Loop.runIx]
  | succ d ih =>
    intro i k n h hk
    obtain ⟨k, rfl⟩ : ∃ m, k = m + 2 := ⟨k - 2, by omega⟩
    simp only [impl_DimsOk.l0, impl_DimsOk.j1, Loop.runIx]
    rw [if_pos (show (i : Int) < (l.length : Int) by omega), if_pos (show 0 ≤ (i : Int) by omega), if_pos (show (i : Int) < (l.length : Int) by omega), rd_nat, Loop.wsucc i (by omega)]
    by_cases h1 : l.getD i 0 < 1
    · have : dimStep l i n = .inl none := by unfold dimStep; rw [if_pos (.inl h1)]
      rw [if_pos h1, this]; rfl
    · rw [if_neg h1]
      by_cases h2 : l.getD i 0 > 4096
      · have : dimStep l i n = .inl none := by unfold dimStep; rw [if_pos (.inr (.inl h2))]
        rw [this, if_pos (by simpa using h2)]; rfl
      · rw [if_neg (by simpa using h2)]
        by_cases h3 : wrap64 (n * l.getD i 0) > 4096
        · have : dimStep l i n = .inl none := by unfold dimStep; rw [if_pos (.inr (.inr h3))]
          rw [if_pos h3, this]; rfl
        · have : dimStep l i n = .inr (wrap64 (n * l.getD i 0)) := by unfold dimStep; rw [if_neg (fun c => c.elim h1 (fun c => c.elim h2 h3))]
          rw [if_neg h3, this]
          exact ih (i + 1) k _ (by omega) (by omega)
theorem iDims (l : List Int) (hl : l.length ≤ 1048576) (k : Nat) (hk : (l.length + 1) * 2 ≤ k) : impl_DimsOk.f k l = some (dimsB l) := by
  unfold impl_DimsOk.f dimsB
  rw [show impl_DimsOk.l0 k l 1 l l.length 0 = _ from iDims_loop l hl l.length 0 k 1 (by omega) hk, Bool.and_comm]; rfl
theorem iProd_loop (l : List Int) (hl : l.length ≤ 1048576) : ∀ (d i k : Nat) (n x : Int), i + d = l.length → d < k → Loop.runIx (dimStep l) some d i n = some x → impl_product.l0 k n l l.length i = some x := by
  intro d
  induction d with
  | zero =>
    intro i k n x h hk e
    obtain ⟨k, rfl⟩ : ∃ m, k = m + 1 := ⟨k - 1, by omega⟩
    simp only [impl_product.l0]
    rw [if_neg (by omega)]; exact e
  | succ d ih =>
    intro i k n x h hk e
    obtain ⟨k, rfl⟩ : ∃ m, k = m + 1 := ⟨k - 1, by omega⟩
    simp only [impl_product.l0]
    rw [if_pos (show (i : Int) < (l.length : Int) by omega), if_pos (show 0 ≤ (i : Int) by omega), if_pos (show (i : Int) < (l.length : Int) by omega), rd_nat, Loop.wsucc i (by omega)]
    simp only [Loop.runIx] at e
    by_cases c : l.getD i 0 < 1 ∨ l.getD i 0 > 4096 ∨ wrap64 (n * l.getD i 0) > 4096
    · have : dimStep l i n = .inl none := by unfold dimStep; rw [if_pos c]
      rw [this] at e; cases e
    · have : dimStep l i n = .inr (wrap64 (n * l.getD i 0)) := by unfold dimStep; rw [if_neg c]
      rw [this] at e
      exact ih (i + 1) k _ x (by omega) (by omega) e
theorem iProd (l : List Int) (hl : l.length ≤ 1048576) (k : Nat) (hk : l.length < k) (x : Int) (h : dimI l = some x) : impl_product.f k l = some x :=
  iProd_loop l hl l.length 0 k 1 x (by omega) hk h
theorem szI (l : List Int) (a : Int) (hl : l.length ≤ maxLen) (h0 : 0 ≤ a) (h1 : a ≤ 1048576) : laws_szIntS.f l a = some (if a < (l.length : Int) then -1 else a - l.length) := by
  have hm : maxLen = 9223372036854775807 := rfl
  unfold laws_szIntS.f
  rw [wid (by omega) (by omega)]
  by_cases c : a < (l.length : Int)
  · rw [if_pos c, if_pos (by omega)]
  · rw [if_neg c, if_neg (by omega)]
def numP (l : List Int) (i : Nat) : Bool := inB (l.getD i 0) 0 2147483646
def numB (l : List Int) : Bool := Loop.allB (numP l) l.length 0
theorem sNums (l l0 : List Int) (hl : l.length ≤ 1048576) (k : Nat) (hk : l.length < k) : spec_TensorOk.l0 k 0 l0 l = some (numB l) := by
  have h := Loop.all_ix (fun k i => spec_TensorOk.l0 k i l0 l) l.length 1 0 (numP l) (some false) (some true)
    (by intro k i _ hi
        simp only [spec_TensorOk.l0]
        rw [if_pos (show (i : Int) < (l.length : Int) by omega), if_pos (show 0 ≤ (i : Int) by omega), rd_nat, Loop.wsucc i (by omega)]
        unfold numP
        by_cases c : inB (l.getD i 0) 0 2147483646 = true
        · have := (inB_iff _ _ _).1 c
          rw [if_pos c, if_neg (show ¬ l.getD i 0 < 0 by omega), if_neg (show ¬ l.getD i 0 ≥ 2147483647 by omega)]
        · have := mt (inB_iff _ _ _).2 c
          rw [if_neg c]
          by_cases c1 : l.getD i 0 < 0
          · rw [if_pos c1]
          · rw [if_neg c1, if_pos (show l.getD i 0 ≥ 2147483647 by omega)])
    (by intro k _; simp only [spec_TensorOk.l0]; rw [if_neg (by omega)])
    l.length 0 k (by omega) (by omega)
  rw [show spec_TensorOk.l0 k 0 l0 l = _ from h]
  unfold numB; cases Loop.allB (numP l) l.length 0 <;> rfl
theorem iNums (l : List Int) (hl : l.length ≤ 1048576) (k : Nat) (hk : l.length < k) : impl_allNums.f k l = some (numB l) := by
  have h := Loop.all_ix (fun k i => impl_allNums.l0 k l l.length i) l.length 1 0 (numP l) (some false) (some true)
    (by intro k i _ hi
        simp only [impl_allNums.l0, impl_isNum.f]
        rw [if_pos (show (i : Int) < (l.length : Int) by omega), if_pos (show 0 ≤ (i : Int) by omega), if_pos (show (i : Int) < (l.length : Int) by omega), rd_nat, Loop.wsucc i (by omega)]
        have e : (if l.getD i 0 ≥ 0 then some (decide (l.getD i 0 < 2147483647)) else some false) = some (numP l i) := by
          unfold numP inB
          by_cases c1 : l.getD i 0 ≥ 0
          · rw [if_pos c1]; congr 1
            rw [Bool.eq_iff_iff, Bool.and_eq_true, decide_eq_true_eq, decide_eq_true_eq, decide_eq_true_eq]; omega
          · rw [if_neg c1]; congr 1; symm; rw [Bool.and_eq_false_iff, decide_eq_false_iff_not]; left; omega
        rw [e]; simp only [Option.bind_some])
    (by intro k _; simp only [impl_allNums.l0]; rw [if_neg (by omega)])
    l.length 0 k (by omega) (by omega)
  unfold impl_allNums.f
  rw [show impl_allNums.l0 k l l.length 0 = _ from h]
  unfold numB; cases Loop.allB (numP l) l.length 0 <;> rfl
theorem tensor_same (l0 l1 : List Int) (h0 : l0.length ≤ 1048576) (h1 : l1.length ≤ 1048576) (k : Nat) (hk : (l0.length + l1.length + 4) * 2 ≤ k) :
    ∃ r, spec_TensorOk.f k l0 l1 = some r ∧ impl_TensorOk.f k l0 l1 = some r := by
  obtain ⟨k, rfl⟩ : ∃ m, k = m + 1 := ⟨k - 1, by omega⟩
  unfold spec_TensorOk.f impl_TensorOk.f
  rw [sDims l0 h0 _ (by omega), iDims l0 h0 _ (by omega)]
  simp only [Option.bind_some]
  by_cases d : dimsB l0 = true
  · rw [if_pos d, if_pos d, sSize l0 h0 _ (by omega)]
    have : ∃ x, dimI l0 = some x := by
      unfold dimsB at d
      rw [Bool.and_eq_true] at d
      exact Option.isSome_iff_exists.1 d.2
    obtain ⟨x, hx⟩ := this
    rw [iProd l0 h0 _ (by omega) x hx, hx]
    simp only [Option.bind_some, spec_TensorOk.j0, Option.getD_some]
    by_cases c : (l1.length : Int) = x
    · rw [if_pos c, iNums l1 h1 _ (by omega), sNums l1 l0 h1 _ (by omega)]
      refine ⟨numB l1, ?_, rfl⟩
      rw [c]; simp
    · rw [if_neg c]
      refine ⟨false, ?_, rfl⟩
      rw [if_pos (by simpa using c)]
  · rw [if_neg d, if_neg d]; exact ⟨false, rfl, rfl⟩
theorem FnExactTensorOk (l0 l1 : List Int) (h0 : l0.length ≤ maxLen) (_ : ∀ x ∈ l0, (Lit.int .i64 x).wf = true) (h1 : l1.length ≤ maxLen) (_ : ∀ x ∈ l1, (Lit.int .i64 x).wf = true) : ∃ k, laws_FnExactTensorOk.f k l0 l1 = some true := by
  refine ⟨(l0.length + l1.length + 4) * 2, ?_⟩
  unfold laws_FnExactTensorOk.f laws_szTensor.f
  rw [szI l0 _ h0 (by decide) (by decide)]; simp only [Option.bind_some]
  by_cases c0 : (1048576 : Int) < l0.length
  · rw [if_pos c0]; rfl
  · rw [if_neg c0, if_neg (by omega), szI l1 _ h1 (by omega) (by omega)]; simp only [Option.bind_some]
    by_cases c1 : (1048576 : Int) - l0.length < l1.length
    · rw [if_pos c1]; rfl
    · rw [if_neg c1, if_neg (by omega)]; simp only [Option.bind_some]
      rw [if_neg (by omega)]
      unfold laws_toTensor.f laws_eqTensor.f
      rw [toIntS_ok l0 (by omega) _ (by omega), toIntS_ok l1 (by omega) _ (by omega)]; simp only [Option.bind_some]
      obtain ⟨r, e1, e2⟩ := tensor_same l0 l1 (by omega) (by omega) _ (Nat.le_refl _)
      rw [e1, e2, eqIntS_ok l0 (by omega) _ (by omega), eqIntS_ok l1 (by omega) _ (by omega)]
      simp

end Go.Proofs.Ytbgpehoffkbgkaa.Pure
