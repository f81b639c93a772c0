/- laws.FnExactViewOk: the program's ViewOk returns what the reference's returns, for every view. No condition. -/
import Derived.Test.YtbgpehoffkbgkaaPFnExactViewOkx6
import Derived.Test.YtbgpehoffkbgkaaAid
import Derived.Test.YtbgpehoffkbgkaaLoop
namespace Go.Proofs.Ytbgpehoffkbgkaa.Pure
open Go.RowKit Go.Proofs.Ytbgpehoffkbgkaa.PFnExactViewOk Go.Proofs.YtbgpehoffkbgkaaW.PrintWords Go.Proofs.YtbgpehoffkbgkaaW.PrintLast Go.Proofs.YtbgpehoffkbgkaaW.PrintMore Go.Proofs.Ytbgpehoffkbgkaa.Aid
set_option linter.unusedVariables false
set_option linter.unusedSimpArgs false
def inB (a b c : Int) : Bool := decide (b ≤ a) && decide (a ≤ c)
theorem inB_iff (a b c : Int) : inB a b c = true ↔ b ≤ a ∧ a ≤ c := by unfold inB; simp
theorem inB_not (a b c : Int) : inB a b c = false ↔ ¬ (b ≤ a ∧ a ≤ c) := by rw [← inB_iff]; simp
theorem in_body (a b c : Int) : (if a ≥ b then (some (decide (a ≤ c))) else (some false)) = some (inB a b c) := by
  unfold inB
  by_cases h : b ≤ a
  · rw [if_pos h]; simp [h]
  · rw [if_neg h]; simp [h]
theorem ite_and (b c : Bool) : (if b = true then some c else some false) = some (b && c) := by cases b <;> rfl
theorem ite_same {α : Type} (b : Bool) (x : α) : (if b = true then x else x) = x := by cases b <;> rfl
theorem rd_nat (l : List Int) (i : Nat) : rd l (i : Int) = l.getD i 0 := by unfold rd; rw [Int.toNat_natCast]
theorem toIntS_loop (l : List Int) (hl : l.length ≤ 1048576) : ∀ (d i k : Nat) (y : List Int), i + d = l.length → d < k → y.length = l.length → (∀ j, j < i → y.getD j 0 = l.getD j 0) → laws_toIntS.l0 k l y i = some l := by
  intro d
  induction d with
  | zero =>
    intro i k y h hk hy hj
    obtain ⟨k, rfl⟩ : ∃ m, k = m + 1 := ⟨k - 1, by omega⟩
    simp only [laws_toIntS.l0]
    rw [if_neg (by omega)]
    congr 1
    refine List.ext_getElem hy fun j h1 h2 => ?_
    have := hj j (by omega)
    rwa [Loop.getD_lt _ _ _ h1, Loop.getD_lt _ _ _ h2] at this
  | succ d ih =>
    intro i k y h hk hy hj
    obtain ⟨k, rfl⟩ : ∃ m, k = m + 1 := ⟨k - 1, by omega⟩
    simp only [laws_toIntS.l0]
    rw [if_pos (by omega), if_pos (by omega), if_pos (by omega), Loop.wsucc i (by omega), Int.toNat_natCast, rd_nat]
    refine ih (i + 1) k _ (by omega) (by omega) (by simpa using hy) fun j h1 => ?_
    by_cases e : j = i
    · rw [e, Loop.getD_set_eq _ _ _ _ (by omega)]
    · rw [Loop.getD_set_ne _ _ _ _ _ e]; exact hj j (by omega)
theorem toIntS_ok (l : List Int) (hl : l.length ≤ 1048576) (k : Nat) (hk : l.length < k) : laws_toIntS.f k l = some l := by
  unfold laws_toIntS.f
  rw [if_pos (by omega), Int.toNat_natCast, if_pos (by omega)]
  exact toIntS_loop l hl l.length 0 k _ (by omega) hk (by simp) (by intro j h; omega)
theorem eqIntS_loop (l : List Int) (hl : l.length ≤ 1048576) : ∀ (d i k : Nat), i + d = l.length → d < k → laws_eqIntS.l0 k l l i = some true := by
  intro d
  induction d with
  | zero =>
    intro i k h hk
    obtain ⟨k, rfl⟩ : ∃ m, k = m + 1 := ⟨k - 1, by omega⟩
    simp only [laws_eqIntS.l0]
    rw [if_neg (by omega)]
  | succ d ih =>
    intro i k h hk
    obtain ⟨k, rfl⟩ : ∃ m, k = m + 1 := ⟨k - 1, by omega⟩
    simp only [laws_eqIntS.l0]
    rw [if_pos (by omega), if_pos (by omega), if_pos (by omega), if_pos trivial, Loop.wsucc i (by omega)]
    exact ih (i + 1) k (by omega) (by omega)
theorem eqIntS_ok (l : List Int) (hl : l.length ≤ 1048576) (k : Nat) (hk : l.length < k) : laws_eqIntS.f k l l = some true := by
  unfold laws_eqIntS.f
  rw [if_pos rfl]
  exact eqIntS_loop l hl l.length 0 k (by omega) hk
/-- One round over the lengths: the product so far, or the end. -/
def dimStep (l : List Int) (i : Nat) (n : Int) : Option Int ⊕ Int :=
  if l.getD i 0 < 1 ∨ l.getD i 0 > 4096 ∨ wrap64 (n * l.getD i 0) > 4096 then .inl none else .inr (wrap64 (n * l.getD i 0))
/-- The product of the lengths, none where one is wrong or it becomes too great. -/
def dimI (l : List Int) : Option Int := Loop.runIx (dimStep l) some l.length 0 1
theorem sSize_loop (l : List Int) (hl : l.length ≤ 1048576) : ∀ (d i k : Nat) (n : Int), i + d = l.length → (d + 1) * 2 ≤ k → spec_l3Size.l0 k l n i = some ((Loop.runIx (dimStep l) some d i n).getD 0) := by
  intro d
  induction d with
  | zero =>
    intro i k n h hk
    obtain ⟨k, rfl⟩ : ∃ m, k = m + 1 := ⟨k - 1, by omega⟩
    simp only [spec_l3Size.l0]
    rw [if_neg (by omega)]; rfl
  | succ d ih =>
    intro i k n h hk
    obtain ⟨k, rfl⟩ : ∃ m, k = m + 2 := ⟨k - 2, by omega⟩
    simp only [spec_l3Size.l0, spec_l3Size.j1, Loop.runIx]
    rw [if_pos (show (i : Int) < (l.length : Int) by omega), if_pos (show 0 ≤ (i : Int) by omega), rd_nat, Loop.wsucc i (by omega)]
    by_cases h1 : l.getD i 0 < 1
    · have : dimStep l i n = .inl none := by unfold dimStep; rw [if_pos (.inl h1)]
      rw [if_pos h1, this]; rfl
    · rw [if_neg h1]
      by_cases h2 : l.getD i 0 > 4096
      · have : dimStep l i n = .inl none := by unfold dimStep; rw [if_pos (.inr (.inl h2))]
        rw [this, if_pos (by simpa using h2)]; rfl
      · rw [if_neg (by simpa using h2), if_pos (by omega), if_pos (show (i : Int) < (l.length : Int) by omega)]
        by_cases h3 : wrap64 (n * l.getD i 0) > 4096
        · have : dimStep l i n = .inl none := by unfold dimStep; rw [if_pos (.inr (.inr h3))]
          rw [if_pos h3, this]; rfl
        · have : dimStep l i n = .inr (wrap64 (n * l.getD i 0)) := by unfold dimStep; rw [if_neg (fun c => c.elim h1 (fun c => c.elim h2 h3))]
          rw [if_neg h3, this]
          exact ih (i + 1) k _ (by omega) (by omega)
theorem sSize (l : List Int) (hl : l.length ≤ 1048576) (k : Nat) (hk : (l.length + 1) * 2 ≤ k) : spec_l3Size.f k l = some ((dimI l).getD 0) :=
  sSize_loop l hl l.length 0 k 1 (by omega) hk
/-- A product that is there is 1 .. 4096. -/
theorem dim_bd (l : List Int) (x : Int) (h : dimI l = some x) : 1 ≤ x ∧ x ≤ 4096 := by
  have key := Loop.run_inv (dimStep l) some (fun _ n => 1 ≤ n ∧ n ≤ 4096) (fun r => ∀ x, r = some x → 1 ≤ x ∧ x ≤ 4096) l.length
    (by intro i s r _ _ e x hx
        unfold dimStep at e
        split at e
        · cases e; cases hx
        · cases e)
    (by intro i s s' _ hI e
        unfold dimStep at e
        split at e
        · cases e
        · rename_i c
          cases e
          have a1 : 1 ≤ l.getD i 0 ∧ l.getD i 0 ≤ 4096 := by omega
          have a2 : 1 ≤ s * l.getD i 0 := by
            have := Int.mul_le_mul hI.1 a1.1 (by decide) (by omega)
            omega
          have a3 : s * l.getD i 0 ≤ 16777216 := by
            have := Int.mul_le_mul hI.2 a1.2 (by omega) (by decide)
            omega
          rw [wid (by omega) (by omega)] at c ⊢
          omega)
    (by intro s hI x hx; cases hx; exact hI) l.length 0 1 (by omega) ⟨by decide, by decide⟩
  exact key x h
def dimsB (l : List Int) : Bool := decide ((l.length : Int) ≤ 6) && (dimI l).isSome
theorem sDims (l : List Int) (hl : l.length ≤ 1048576) (k : Nat) (hk : (l.length + 1) * 2 ≤ k) : spec_DimsOk.f k l = some (dimsB l) := by
  unfold spec_DimsOk.f dimsB
  by_cases c : (l.length : Int) ≤ 6
  · rw [if_pos c, sSize l hl k hk]; simp only [Option.bind_some]
    cases e : dimI l with
    | none => simp
    | some x => have := dim_bd l x e; simp [c]; omega
  · rw [if_neg c]; simp [c]
theorem iDims_loop (l : List Int) (hl : l.length ≤ 1048576) : ∀ (d i k : Nat) (n : Int), i + d = l.length → (d + 1) * 2 ≤ k → impl_DimsOk.l0 k l n l l.length i = some ((Loop.runIx (dimStep l) some d i n).isSome && decide ((l.length : Int) ≤ 6)) := by
  intro d
  induction d with
  | zero =>
    intro i k n h hk
    obtain ⟨k, rfl⟩ : ∃ m, k = m + 1 := ⟨k - 1, by omega⟩
    simp only [impl_DimsOk.l0]
    rw [if_neg (by omega)]; simp [Loop.runIx]
  | succ d ih =>
    intro i k n h hk
    obtain ⟨k, rfl⟩ : ∃ m, k = m + 2 := ⟨k - 2, by omega⟩
    simp only [impl_DimsOk.l0, impl_DimsOk.j1, Loop.runIx]
    rw [if_pos (show (i : Int) < (l.length : Int) by omega), if_pos (show 0 ≤ (i : Int) by omega), if_pos (show (i : Int) < (l.length : Int) by omega), rd_nat, Loop.wsucc i (by omega)]
    by_cases h1 : l.getD i 0 < 1
    · have : dimStep l i n = .inl none := by unfold dimStep; rw [if_pos (.inl h1)]
      rw [if_pos h1, this]; rfl
    · rw [if_neg h1]
      by_cases h2 : l.getD i 0 > 4096
      · have : dimStep l i n = .inl none := by unfold dimStep; rw [if_pos (.inr (.inl h2))]
        rw [this, if_pos (by simpa using h2)]; rfl
      · rw [if_neg (by simpa using h2)]
        by_cases h3 : wrap64 (n * l.getD i 0) > 4096
        · have : dimStep l i n = .inl none := by unfold dimStep; rw [if_pos (.inr (.inr h3))]
          rw [if_pos h3, this]; rfl
        · have : dimStep l i n = .inr (wrap64 (n * l.getD i 0)) := by unfold dimStep; rw [if_neg (fun c => c.elim h1 (fun c => c.elim h2 h3))]
          rw [if_neg h3, this]
          exact ih (i + 1) k _ (by omega) (by omega)
theorem iDims (l : List Int) (hl : l.length ≤ 1048576) (k : Nat) (hk : (l.length + 1) * 2 ≤ k) : impl_DimsOk.f k l = some (dimsB l) := by
  unfold impl_DimsOk.f dimsB
  rw [show impl_DimsOk.l0 k l 1 l l.length 0 = _ from iDims_loop l hl l.length 0 k 1 (by omega) hk, Bool.and_comm]; rfl
theorem szI (l : List Int) (a : Int) (hl : l.length ≤ maxLen) (h0 : 0 ≤ a) (h1 : a ≤ 1048576) : laws_szIntS.f l a = some (if a < (l.length : Int) then -1 else a - l.length) := by
  have hm : maxLen = 9223372036854775807 := rfl
  unfold laws_szIntS.f
  rw [wid (by omega) (by omega)]
  by_cases c : a < (l.length : Int)
  · rw [if_pos c, if_pos (by omega)]
  · rw [if_neg c, if_neg (by omega)]
/-- The product of the first n lengths. -/
def prodTo (D : List Int) : Nat → Int
  | 0 => 1
  | n + 1 => prodTo D n * D.getD n 0
/-- The index at place k of the first n lengths. -/
def ixAt (D : List Int) : Nat → Int → Nat → Int
  | 0, _, _ => 0
  | n + 1, k, j => if j = n then k % D.getD n 0 else ixAt D n (k / D.getD n 0) j
/-- What an index adds to the offset, over the first n lengths. -/
def plTo (D S : List Int) : Nat → Int → Int
  | 0, _ => 0
  | n + 1, k => plTo D S n (k / D.getD n 0) + k % D.getD n 0 * S.getD n 0
def loTo (D S : List Int) : Nat → Int
  | 0 => 0
  | n + 1 => loTo D S n + min 0 (S.getD n 0 * (D.getD n 0 - 1))
def hiTo (D S : List Int) : Nat → Int
  | 0 => 0
  | n + 1 => hiTo D S n + max 0 (S.getD n 0 * (D.getD n 0 - 1))
def Dok (D : List Int) (n : Nat) : Prop := ∀ j, j < n → 1 ≤ D.getD j 0 ∧ D.getD j 0 ≤ 4096
theorem prod_pos {D : List Int} : ∀ n, Dok D n → 1 ≤ prodTo D n := by
  intro n
  induction n with
  | zero => intro _; exact Int.le_refl _
  | succ n ih =>
    intro h
    have h1 := ih fun j hj => h j (by omega)
    have h2 := h n (by omega)
    have := Int.mul_le_mul h1 h2.1 (by decide) (by omega)
    simpa [prodTo] using this
/-- One coordinate's share lies between its least and its greatest. -/
theorem share_bd (x d s : Int) (h0 : 0 ≤ x) (h1 : x ≤ d - 1) : min 0 (s * (d - 1)) ≤ x * s ∧ x * s ≤ max 0 (s * (d - 1)) := by
  rw [Int.mul_comm x s]
  rcases Int.le_total 0 s with c | c
  · have a := Int.mul_nonneg c h0
    have b := Int.mul_le_mul_of_nonneg_left h1 c
    omega
  · have a := Int.mul_nonneg (show 0 ≤ -s by omega) h0
    have b := Int.mul_le_mul_of_nonneg_left h1 (show 0 ≤ -s by omega)
    rw [Int.neg_mul] at a
    rw [Int.neg_mul, Int.neg_mul] at b
    omega
theorem pl_bd (D S : List Int) : ∀ n k, Dok D n → 0 ≤ k → k < prodTo D n → loTo D S n ≤ plTo D S n k ∧ plTo D S n k ≤ hiTo D S n := by
  intro n
  induction n with
  | zero => intro k _ _ _; exact ⟨Int.le_refl _, Int.le_refl _⟩
  | succ n ih =>
    intro k h h0 h1
    have hd := h n (by omega)
    have q0 : 0 ≤ k / D.getD n 0 := Int.ediv_nonneg h0 (by omega)
    have q1 : k / D.getD n 0 < prodTo D n := Int.ediv_lt_of_lt_mul (by omega) h1
    have r0 := Int.emod_nonneg k (show D.getD n 0 ≠ 0 by omega)
    have r1 := Int.emod_lt_of_pos k (show 0 < D.getD n 0 by omega)
    have a := ih (k / D.getD n 0) (fun j hj => h j (by omega)) q0 q1
    have b := share_bd (k % D.getD n 0) (D.getD n 0) (S.getD n 0) r0 (by omega)
    simp only [loTo, plTo, hiTo]
    omega
theorem pl_lo (D S : List Int) : ∀ n, Dok D n → ∃ k, 0 ≤ k ∧ k < prodTo D n ∧ plTo D S n k = loTo D S n := by
  intro n
  induction n with
  | zero => intro _; exact ⟨0, Int.le_refl _, (by decide : (0 : Int) < 1), rfl⟩
  | succ n ih =>
    intro h
    obtain ⟨k, h0, h1, h2⟩ := ih fun j hj => h j (by omega)
    have hd := h n (by omega)
    have key : ∀ x, 0 ≤ x → x < D.getD n 0 → x * S.getD n 0 = min 0 (S.getD n 0 * (D.getD n 0 - 1)) → ∃ k, 0 ≤ k ∧ k < prodTo D (n + 1) ∧ plTo D S (n + 1) k = loTo D S (n + 1) := by
      intro x x0 x1 e
      refine ⟨k * D.getD n 0 + x, ?_, ?_, ?_⟩
      · have := Int.mul_nonneg h0 (show 0 ≤ D.getD n 0 by omega); omega
      · have := Int.mul_le_mul_of_nonneg_right (show k + 1 ≤ prodTo D n by omega) (show 0 ≤ D.getD n 0 by omega)
        rw [Int.add_mul, Int.one_mul] at this
        simp only [prodTo]; omega
      · have e1 : (k * D.getD n 0 + x) / D.getD n 0 = k := by
          rw [Int.add_comm, Int.add_mul_ediv_right _ _ (by omega), Int.ediv_eq_zero_of_lt x0 x1]; omega
        have e2 : (k * D.getD n 0 + x) % D.getD n 0 = x := by
          rw [Int.add_comm, Int.add_mul_emod_self_right, Int.emod_eq_of_lt x0 x1]
        simp only [plTo, loTo]
        rw [e1, e2, h2, e]
    rcases Int.le_total 0 (S.getD n 0) with c | c
    · refine key 0 (by omega) (by omega) ?_
      have := Int.mul_nonneg c (show 0 ≤ D.getD n 0 - 1 by omega)
      omega
    · refine key (D.getD n 0 - 1) (by omega) (by omega) ?_
      have := Int.mul_nonneg (show 0 ≤ -S.getD n 0 by omega) (show 0 ≤ D.getD n 0 - 1 by omega)
      rw [Int.neg_mul] at this
      rw [Int.mul_comm]; omega
theorem pl_hi (D S : List Int) : ∀ n, Dok D n → ∃ k, 0 ≤ k ∧ k < prodTo D n ∧ plTo D S n k = hiTo D S n := by
  intro n
  induction n with
  | zero => intro _; exact ⟨0, Int.le_refl _, (by decide : (0 : Int) < 1), rfl⟩
  | succ n ih =>
    intro h
    obtain ⟨k, h0, h1, h2⟩ := ih fun j hj => h j (by omega)
    have hd := h n (by omega)
    have key : ∀ x, 0 ≤ x → x < D.getD n 0 → x * S.getD n 0 = max 0 (S.getD n 0 * (D.getD n 0 - 1)) → ∃ k, 0 ≤ k ∧ k < prodTo D (n + 1) ∧ plTo D S (n + 1) k = hiTo D S (n + 1) := by
      intro x x0 x1 e
      refine ⟨k * D.getD n 0 + x, ?_, ?_, ?_⟩
      · have := Int.mul_nonneg h0 (show 0 ≤ D.getD n 0 by omega); omega
      · have := Int.mul_le_mul_of_nonneg_right (show k + 1 ≤ prodTo D n by omega) (show 0 ≤ D.getD n 0 by omega)
        rw [Int.add_mul, Int.one_mul] at this
        simp only [prodTo]; omega
      · have e1 : (k * D.getD n 0 + x) / D.getD n 0 = k := by
          rw [Int.add_comm, Int.add_mul_ediv_right _ _ (by omega), Int.ediv_eq_zero_of_lt x0 x1]; omega
        have e2 : (k * D.getD n 0 + x) % D.getD n 0 = x := by
          rw [Int.add_comm, Int.add_mul_emod_self_right, Int.emod_eq_of_lt x0 x1]
        simp only [plTo, hiTo]
        rw [e1, e2, h2, e]
    rcases Int.le_total 0 (S.getD n 0) with c | c
    · refine key (D.getD n 0 - 1) (by omega) (by omega) ?_
      have := Int.mul_nonneg c (show 0 ≤ D.getD n 0 - 1 by omega)
      rw [Int.mul_comm]; omega
    · refine key 0 (by omega) (by omega) ?_
      have := Int.mul_nonneg (show 0 ≤ -S.getD n 0 by omega) (show 0 ≤ D.getD n 0 - 1 by omega)
      rw [Int.neg_mul] at this
      omega
/-- What dimI has checked. -/
theorem dim_prod (D : List Int) (x : Int) (h : dimI D = some x) : Dok D D.length ∧ x = prodTo D D.length := by
  have key := Loop.run_inv (dimStep D) some (fun i n => 1 ≤ n ∧ n ≤ 4096 ∧ n = prodTo D i ∧ Dok D i) (fun r => ∀ x, r = some x → Dok D D.length ∧ x = prodTo D D.length) D.length
    (by intro i s r _ _ e x hx
        unfold dimStep at e
        split at e
        · cases e; cases hx
        · cases e)
    (by intro i s s' _ hI e
        unfold dimStep at e
        split at e
        · cases e
        · rename_i c
          cases e
          have a1 : 1 ≤ D.getD i 0 ∧ D.getD i 0 ≤ 4096 := by omega
          have a2 : 1 ≤ s * D.getD i 0 := by
            have := Int.mul_le_mul hI.1 a1.1 (by decide) (by omega)
            omega
          have a3 : s * D.getD i 0 ≤ 16777216 := by
            have := Int.mul_le_mul hI.2.1 a1.2 (by omega) (by decide)
            omega
          rw [wid (by omega) (by omega)] at c ⊢
          refine ⟨by omega, by omega, ?_, fun j hj => ?_⟩
          · rw [hI.2.2.1]; rfl
          · by_cases e : j = i
            · rw [e]; exact a1
            · exact hI.2.2.2 j (by omega))
    (by intro s hI x hx; cases hx; exact ⟨hI.2.2.2, hI.2.2.1⟩) D.length 0 1 (by omega) ⟨by decide, by decide, rfl, fun j hj => by omega⟩
  exact key x h
def Sok (S : List Int) (n : Nat) : Prop := ∀ j, j < n → -4096 ≤ S.getD j 0 ∧ S.getD j 0 ≤ 4096
/-- The index loop. -/
theorem sIx_loop (D : List Int) (hl : D.length ≤ 6) (hD : Dok D D.length) : ∀ (n : Nat) (k : Int) (y : List Int) (f : Nat), n ≤ D.length → 0 ≤ k → k ≤ 9223372036854775807 → y.length = D.length → n < f →
    ∃ z, spec_l3Index.l0 f D k y ((n : Int) - 1) = some z ∧ z.length = D.length ∧ (∀ j, j < n → z.getD j 0 = ixAt D n k j) ∧ ∀ j, n ≤ j → z.getD j 0 = y.getD j 0 := by
  intro n
  induction n with
  | zero =>
    intro k y f _ _ _ hy hf
    obtain ⟨f, rfl⟩ : ∃ q, f = q + 1 := ⟨f - 1, by omega⟩
    simp only [spec_l3Index.l0]
    rw [if_neg (by omega)]
    exact ⟨y, rfl, hy, fun j hj => by omega, fun j _ => rfl⟩
  | succ n ih =>
    intro k y f hn hk hk' hy hf
    obtain ⟨f, rfl⟩ : ∃ q, f = q + 1 := ⟨f - 1, by omega⟩
    have hd := hD n (by omega)
    have e0 : ((n + 1 : Nat) : Int) - 1 = (n : Int) := by omega
    rw [e0]
    simp only [spec_l3Index.l0]
    have q0 : 0 ≤ k / D.getD n 0 := Int.ediv_nonneg hk (by omega)
    have q1 : k / D.getD n 0 ≤ k := Int.ediv_le_self _ hk
    rw [if_pos (show (n : Int) ≥ 0 by omega), if_pos (show 0 ≤ (n : Int) by omega), if_pos (show (n : Int) < (D.length : Int) by omega), rd_nat, if_neg (show ¬ D.getD n 0 = 0 by omega),
      if_pos (show (n : Int) < (y.length : Int) by omega), tdiv_nn hk, tmod_nn hk, wid (x := k / D.getD n 0) (by omega) (by omega), wid (x := (n : Int) - 1) (by omega) (by omega), Int.toNat_natCast]
    obtain ⟨z, h1, h2, h3, h4⟩ := ih (k / D.getD n 0) (y.set n (k % D.getD n 0)) f (by omega) q0 (by omega) (by simpa using hy) (by omega)
    refine ⟨z, h1, h2, fun j hj => ?_, fun j hj => ?_⟩
    · by_cases e : j = n
      · subst e
        rw [h4 j (by omega), Loop.getD_set_eq _ _ _ _ (by omega)]; simp [ixAt]
      · rw [h3 j (by omega)]; simp [ixAt, e]
    · rw [h4 j (by omega), Loop.getD_set_ne _ _ _ _ _ (by omega)]
theorem sIx (D : List Int) (hl : D.length ≤ 6) (hD : Dok D D.length) (k : Int) (hk : 0 ≤ k) (hk' : k ≤ 9223372036854775807) (f : Nat) (hf : 6 < f) :
    ∃ z, spec_l3Index.f f D k = some z ∧ z.length = D.length ∧ ∀ j, j < D.length → z.getD j 0 = ixAt D D.length k j := by
  unfold spec_l3Index.f
  rw [if_pos (by omega), Int.toNat_natCast, if_pos (by omega), wid (by omega) (by omega)]
  obtain ⟨z, h1, h2, h3, _⟩ := sIx_loop D hl hD D.length k (List.replicate D.length 0) f (Nat.le_refl _) hk hk' (by simp) (by omega)
  exact ⟨z, h1, h2, h3⟩
theorem ix_bd (D : List Int) : ∀ n k j, Dok D n → j < n → 0 ≤ ixAt D n k j ∧ ixAt D n k j ≤ 4095 := by
  intro n
  induction n with
  | zero => intro k j _ hj; omega
  | succ n ih =>
    intro k j h hj
    have hd := h n (by omega)
    simp only [ixAt]
    by_cases e : j = n
    · rw [if_pos e]
      have r0 := Int.emod_nonneg k (show D.getD n 0 ≠ 0 by omega)
      have r1 := Int.emod_lt_of_pos k (show 0 < D.getD n 0 by omega)
      omega
    · rw [if_neg e]; exact ih _ j (fun j hj => h j (by omega)) (by omega)
/-- The sum of an index's shares, from the front. -/
def sumTo (z S : List Int) : Nat → Int
  | 0 => 0
  | n + 1 => sumTo z S n + z.getD n 0 * S.getD n 0
theorem sum_pl (D S : List Int) : ∀ n k (z : List Int), (∀ j, j < n → z.getD j 0 = ixAt D n k j) → sumTo z S n = plTo D S n k := by
  intro n
  induction n with
  | zero => intro k z _; rfl
  | succ n ih =>
    intro k z h
    simp only [sumTo, plTo]
    have hn := h n (by omega)
    rw [ih (k / D.getD n 0) z (fun j hj => by rw [h j (by omega)]; simp [ixAt, show ¬ j = n by omega]), hn]
    simp [ixAt]
theorem sum_bd (z S : List Int) : ∀ n, (∀ j, j < n → 0 ≤ z.getD j 0 ∧ z.getD j 0 ≤ 4095) → Sok S n → -(16777216 * (n : Int)) ≤ sumTo z S n ∧ sumTo z S n ≤ 16777216 * (n : Int) := by
  intro n
  induction n with
  | zero => intro _ _; exact ⟨Int.le_refl _, Int.le_refl _⟩
  | succ n ih =>
    intro hz hS
    have a := ih (fun j hj => hz j (by omega)) (fun j hj => hS j (by omega))
    have z1 := hz n (by omega)
    have s1 := hS n (by omega)
    have b : -16777216 ≤ z.getD n 0 * S.getD n 0 ∧ z.getD n 0 * S.getD n 0 ≤ 16777216 := by
      have p1 := Int.mul_le_mul_of_nonneg_left s1.2 z1.1
      have p2 := Int.mul_le_mul_of_nonneg_left s1.1 z1.1
      omega
    simp only [sumTo]
    omega
theorem sPlace_loop (D S z : List Int) (off base : Int) (hz : z.length = D.length) (hS : S.length = D.length) (hl : D.length ≤ 6) (ho : 0 ≤ off) (ho' : off ≤ 4096) (zb : ∀ j, j < D.length → 0 ≤ z.getD j 0 ∧ z.getD j 0 ≤ 4095) (Sb : Sok S D.length) :
    ∀ (d i f : Nat), i + d = D.length → d < f → spec_l3Place.l0 f z (off + sumTo z S i) i D S off base = some (off + sumTo z S D.length) := by
  intro d
  induction d with
  | zero =>
    intro i f h hf
    obtain ⟨f, rfl⟩ : ∃ q, f = q + 1 := ⟨f - 1, by omega⟩
    obtain rfl : i = D.length := by omega
    simp only [spec_l3Place.l0]
    rw [if_neg (by omega)]
  | succ d ih =>
    intro i f h hf
    obtain ⟨f, rfl⟩ : ∃ q, f = q + 1 := ⟨f - 1, by omega⟩
    simp only [spec_l3Place.l0]
    have a := sum_bd z S i (fun j hj => zb j (by omega)) (fun j hj => Sb j (by omega))
    have a2 := sum_bd z S (i + 1) (fun j hj => zb j (by omega)) (fun j hj => Sb j (by omega))
    simp only [sumTo] at a2
    rw [if_pos (by omega), if_pos (by omega), if_pos (by omega), rd_nat, rd_nat, Loop.wsucc i (by omega), wid (x := z.getD i 0 * S.getD i 0) (by omega) (by omega), wid (by omega) (by omega)]
    have := ih (i + 1) f (by omega) (by omega)
    simp only [sumTo] at this
    rw [← Int.add_assoc] at this
    exact this
theorem sPlace (D S z : List Int) (off base : Int) (hz : z.length = D.length) (hS : S.length = D.length) (hl : D.length ≤ 6) (ho : 0 ≤ off) (ho' : off ≤ 4096) (zb : ∀ j, j < D.length → 0 ≤ z.getD j 0 ∧ z.getD j 0 ≤ 4095) (Sb : Sok S D.length) (f : Nat) (hf : 6 < f) :
    spec_l3Place.f f D S off base z = some (off + sumTo z S D.length) := by
  have := sPlace_loop D S z off base hz hS hl ho ho' zb Sb D.length 0 f (by omega) (by omega)
  unfold spec_l3Place.f
  simpa [sumTo] using this
/-- All places, in order. -/
def allPl (D S : List Int) (off : Int) (n : Nat) : List Int := (List.range n).map fun (k : Nat) => off + plTo D S D.length (k : Int)
theorem sAll_loop (D S : List Int) (off base : Int) (hS : S.length = D.length) (hl : D.length ≤ 6) (hD : Dok D D.length) (Sb : Sok S D.length) (ho : 0 ≤ off) (ho' : off ≤ 4096) (n : Nat) (hn : n ≤ 4096) :
    ∀ (d i f : Nat), i + d = n → d + 8 < f → spec_l3All.l0 f (allPl D S off i) n i D S off base = some (allPl D S off n) := by
  intro d
  induction d with
  | zero =>
    intro i f h hf
    obtain ⟨f, rfl⟩ : ∃ q, f = q + 1 := ⟨f - 1, by omega⟩
    obtain rfl : i = n := by omega
    simp only [spec_l3All.l0]
    rw [if_neg (by omega)]
  | succ d ih =>
    intro i f h hf
    obtain ⟨f, rfl⟩ : ∃ q, f = q + 1 := ⟨f - 1, by omega⟩
    simp only [spec_l3All.l0]
    obtain ⟨z, h1, h2, h3⟩ := sIx D hl hD (i : Int) (by omega) (by omega) f (by omega)
    have zb : ∀ j, j < D.length → 0 ≤ z.getD j 0 ∧ z.getD j 0 ≤ 4095 := fun j hj => by rw [h3 j hj]; exact ix_bd D D.length _ j hD hj
    rw [if_pos (by omega), h1]; simp only [Option.bind_some]
    rw [sPlace D S z off base h2 hS hl ho ho' zb Sb f (by omega)]; simp only [Option.bind_some]
    have hlen : (allPl D S off i).length = i := by simp [allPl]
    rw [if_pos (by omega), Loop.wsucc i (by omega), sum_pl D S D.length (i : Int) z h3]
    have e : allPl D S off i ++ [off + plTo D S D.length (i : Int)] = allPl D S off (i + 1) := by
      unfold allPl; rw [List.range_succ, List.map_append]; rfl
    rw [e]
    exact ih (i + 1) f (by omega) (by omega)
def inP (l : List Int) (base : Int) (i : Nat) : Bool := decide (0 ≤ l.getD i 0) && decide (l.getD i 0 < base)
theorem sIn1 (D S l : List Int) (off base : Int) (hl : l.length ≤ 4096) (f : Nat) (hf : l.length < f) : spec_ViewOk.l1 f l 0 D S off base = some (Loop.allB (inP l base) l.length 0) := by
  have h := Loop.all_ix (fun k i => spec_ViewOk.l1 k l i D S off base) l.length 1 0 (inP l base) (some false) (some true)
    (by intro k i _ hi
        simp only [spec_ViewOk.l1]
        rw [if_pos (show (i : Int) < (l.length : Int) by omega), if_pos (show 0 ≤ (i : Int) by omega), rd_nat, Loop.wsucc i (by omega)]
        unfold inP
        by_cases c1 : l.getD i 0 < 0
        · rw [if_pos c1, decide_eq_false (show ¬ 0 ≤ l.getD i 0 by omega)]; rfl
        · rw [if_neg c1, decide_eq_true (show 0 ≤ l.getD i 0 by omega), Bool.true_and]
          by_cases c2 : l.getD i 0 ≥ base
          · rw [if_pos c2, decide_eq_false (show ¬ l.getD i 0 < base by omega)]; rfl
          · rw [if_neg c2, decide_eq_true (show l.getD i 0 < base by omega)]; rfl)
    (by intro k _; simp only [spec_ViewOk.l1]; rw [if_neg (by omega)])
    l.length 0 f (by omega) (by omega)
  rw [show spec_ViewOk.l1 f l 0 D S off base = _ from h]
  cases Loop.allB (inP l base) l.length 0 <;> rfl
def strP (S : List Int) (i : Nat) : Bool := inB (S.getD i 0) (-4096) 4096
def fitB (D S : List Int) (off base : Int) : Bool := decide (0 ≤ off + loTo D S D.length) && decide (off + hiTo D S D.length < base)
theorem all_fit (D S : List Int) (off base : Int) (hD : Dok D D.length) (n : Nat) (hn : (n : Int) = prodTo D D.length) : Loop.allB (inP (allPl D S off n) base) (allPl D S off n).length 0 = fitB D S off base := by
  have hlen : (allPl D S off n).length = n := by simp [allPl]
  have hg : ∀ j, j < n → (allPl D S off n).getD j 0 = off + plTo D S D.length (j : Int) := by
    intro j hj
    rw [Loop.getD_lt _ _ _ (by omega)]; simp [allPl]
  rw [Bool.eq_iff_iff, Loop.allB_iff, hlen]
  unfold fitB inP
  rw [Bool.and_eq_true, decide_eq_true_eq, decide_eq_true_eq]
  constructor
  · intro h
    obtain ⟨a, a0, a1, a2⟩ := pl_lo D S D.length hD
    obtain ⟨b, b0, b1, b2⟩ := pl_hi D S D.length hD
    have ha := h a.toNat (by omega) (by omega)
    have hb := h b.toNat (by omega) (by omega)
    rw [hg _ (by omega), Int.toNat_of_nonneg a0, a2, Bool.and_eq_true, decide_eq_true_eq, decide_eq_true_eq] at ha
    rw [hg _ (by omega), Int.toNat_of_nonneg b0, b2, Bool.and_eq_true, decide_eq_true_eq, decide_eq_true_eq] at hb
    omega
  · rintro ⟨h1, h2⟩ j _ hj
    rw [hg j (by omega), Bool.and_eq_true, decide_eq_true_eq, decide_eq_true_eq]
    have := pl_bd D S D.length (j : Int) hD (by omega) (by omega)
    omega
theorem lo_bd (D S : List Int) : ∀ n, Dok D n → Sok S n → -(16777216 * (n : Int)) ≤ loTo D S n ∧ loTo D S n ≤ 0 ∧ 0 ≤ hiTo D S n ∧ hiTo D S n ≤ 16777216 * (n : Int) := by
  intro n
  induction n with
  | zero => intro _ _; exact ⟨Int.le_refl _, Int.le_refl _, Int.le_refl _, Int.le_refl _⟩
  | succ n ih =>
    intro hD hS
    have a := ih (fun j hj => hD j (by omega)) (fun j hj => hS j (by omega))
    have d1 := hD n (by omega)
    have s1 := hS n (by omega)
    have p1 := Int.mul_le_mul_of_nonneg_right s1.2 (show 0 ≤ D.getD n 0 - 1 by omega)
    have p2 := Int.mul_le_mul_of_nonneg_right s1.1 (show 0 ≤ D.getD n 0 - 1 by omega)
    simp only [loTo, hiTo]
    omega
theorem iView_loop (D S : List Int) (off base : Int) (hS : S.length = D.length) (hl : D.length ≤ 6) (hD : Dok D D.length) (ho : 0 ≤ off) (ho' : off ≤ 4096) :
    ∀ (d i f : Nat), i + d = D.length → d < f → Sok S i → impl_ViewOk.l0 f (off + loTo D S i) (off + hiTo D S i) S S.length i D S off base = some (Loop.allB (strP S) d i && fitB D S off base) := by
  intro d
  induction d with
  | zero =>
    intro i f h hf _
    obtain ⟨f, rfl⟩ : ∃ q, f = q + 1 := ⟨f - 1, by omega⟩
    obtain rfl : i = D.length := by omega
    simp only [impl_ViewOk.l0]
    rw [if_neg (by omega)]
    unfold fitB
    by_cases c : off + loTo D S D.length ≥ 0
    · rw [if_pos c, decide_eq_true (show 0 ≤ off + loTo D S D.length from c)]; rfl
    · rw [if_neg c, decide_eq_false (show ¬ 0 ≤ off + loTo D S D.length from c)]; rfl
  | succ d ih =>
    intro i f h hf hSi
    obtain ⟨f, rfl⟩ : ∃ q, f = q + 1 := ⟨f - 1, by omega⟩
    simp only [impl_ViewOk.l0, Loop.allB]
    rw [if_pos (by omega), if_pos (by omega), if_pos (by omega), rd_nat, rd_nat]
    by_cases c : strP S i = true
    · have c' := (inB_iff _ _ _).1 c
      have d1 := hD i (by omega)
      have p1 := Int.mul_le_mul_of_nonneg_right c'.2 (show 0 ≤ D.getD i 0 - 1 by omega)
      have p2 := Int.mul_le_mul_of_nonneg_right c'.1 (show 0 ≤ D.getD i 0 - 1 by omega)
      have a := lo_bd D S i (fun j hj => hD j (by omega)) hSi
      have hSi' : Sok S (i + 1) := by
        intro j hj
        by_cases e : j = i
        · rw [e]; exact c'
        · exact hSi j (by omega)
      rw [if_neg (show ¬ S.getD i 0 < -4096 by omega), if_neg (show ¬ S.getD i 0 > 4096 by omega), if_pos (show (i : Int) < (D.length : Int) by omega), c, Bool.true_and, Loop.wsucc i (by omega),
        wid (x := D.getD i 0 - 1) (by omega) (by omega), wid (x := S.getD i 0 * (D.getD i 0 - 1)) (by omega) (by omega)]
      have em : mn 0 (S.getD i 0 * (D.getD i 0 - 1)) = min 0 (S.getD i 0 * (D.getD i 0 - 1)) := by unfold mn; omega
      have ex : mx 0 (S.getD i 0 * (D.getD i 0 - 1)) = max 0 (S.getD i 0 * (D.getD i 0 - 1)) := by unfold mx; omega
      rw [em, ex, wid (x := off + loTo D S i + _) (by omega) (by omega), wid (x := off + hiTo D S i + _) (by omega) (by omega)]
      have := ih (i + 1) f (by omega) (by omega) hSi'
      simp only [loTo, hiTo] at this
      rw [← Int.add_assoc, ← Int.add_assoc] at this
      exact this
    · rw [Bool.not_eq_true] at c
      have c' := mt (inB_iff (S.getD i 0) (-4096) 4096).2 (by unfold strP at c; rw [c]; decide)
      rw [c]
      by_cases c1 : S.getD i 0 < -4096
      · rw [if_pos c1]; rfl
      · rw [if_neg c1, if_pos (show S.getD i 0 > 4096 by omega)]; rfl
def viewB (D S : List Int) (off base : Int) : Bool := Loop.allB (strP S) D.length 0 && fitB D S off base
theorem sView_loop (D S : List Int) (off base : Int) (x : Int) (hx : dimI D = some x) (hS : S.length = D.length) (hl : D.length ≤ 6) (ho : 0 ≤ off) (ho' : off ≤ 4096) (f : Nat) (hf : 5000 ≤ f) :
    spec_ViewOk.l0 f 0 D S off base = some (viewB D S off base) := by
  obtain ⟨hD, ex⟩ := dim_prod D x hx
  have xb := dim_bd D x hx
  have hstep : ∀ k i, 0 ≤ k → i < D.length → spec_ViewOk.l0 (k + 1) (i : Int) D S off base = if strP S i = true then spec_ViewOk.l0 k ((i + 1 : Nat) : Int) D S off base else some false := by
    intro k i _ hi
    simp only [spec_ViewOk.l0]
    rw [if_pos (show (i : Int) < (S.length : Int) by omega), if_pos (show 0 ≤ (i : Int) by omega), rd_nat, Loop.wsucc i (by omega)]
    by_cases c : strP S i = true
    · have c' := (inB_iff _ _ _).1 c
      rw [if_pos c, if_neg (show ¬ S.getD i 0 < -4096 by omega), if_neg (show ¬ S.getD i 0 > 4096 by omega)]
    · have c' := mt (inB_iff (S.getD i 0) (-4096) 4096).2 c
      rw [if_neg c]
      by_cases c1 : S.getD i 0 < -4096
      · rw [if_pos c1]
      · rw [if_neg c1, if_pos (show S.getD i 0 > 4096 by omega)]
  have main : ∀ d i f, i + d = D.length → 4120 + (d + 1) ≤ f → Sok S i → spec_ViewOk.l0 f (i : Int) D S off base = some (Loop.allB (strP S) d i && fitB D S off base) := by
    intro d
    induction d with
    | zero =>
      intro i f h hf hSi
      obtain ⟨f, rfl⟩ : ∃ q, f = q + 1 := ⟨f - 1, by omega⟩
      obtain rfl : i = D.length := by omega
      simp only [spec_ViewOk.l0]
      rw [if_neg (by omega)]
      unfold spec_l3All.f
      rw [sSize D (by omega) f (by omega), hx]
      simp only [Option.bind_some, Option.getD_some]
      have hn : ((x.toNat : Nat) : Int) = x := Int.toNat_of_nonneg (by omega)
      have hall := sAll_loop D S off base hS hl hD hSi ho ho' x.toNat (by omega) x.toNat 0 f (by omega) (by omega)
      rw [hn] at hall
      rw [show spec_l3All.l0 f [] x 0 D S off base = _ from hall]
      simp only [Option.bind_some]
      have hlen : (allPl D S off x.toNat).length = x.toNat := by simp [allPl]
      rw [sIn1 D S _ off base (by omega) f (by omega), all_fit D S off base hD x.toNat (by omega)]
      simp [Loop.allB]
    | succ d ih =>
      intro i f h hf hSi
      obtain ⟨f, rfl⟩ : ∃ q, f = q + 1 := ⟨f - 1, by omega⟩
      rw [hstep f i (by omega) (by omega)]
      simp only [Loop.allB]
      by_cases c : strP S i = true
      · have c' := (inB_iff _ _ _).1 c
        rw [if_pos c, c, Bool.true_and]
        refine ih (i + 1) f (by omega) (by omega) fun j hj => ?_
        by_cases e : j = i
        · rw [e]; exact c'
        · exact hSi j (by omega)
      · rw [if_neg c]; rw [Bool.not_eq_true] at c; rw [c]; rfl
  exact main D.length 0 f (by omega) (by omega) (fun j hj => by omega)
theorem view_same (D S : List Int) (off base : Int) (h0 : D.length ≤ 1048576) (k : Nat) (hk : (D.length + 1) * 2 + 5000 < k) : ∃ r, spec_ViewOk.f k D S off base = some r ∧ impl_ViewOk.f k D S off base = some r := by
  obtain ⟨k, rfl⟩ : ∃ m, k = m + 1 := ⟨k - 1, by omega⟩
  unfold spec_ViewOk.f impl_ViewOk.f
  rw [sDims D h0 _ (by omega), iDims D h0 _ (by omega)]
  simp only [Option.bind_some, spec_ViewOk.j0, impl_ViewOk.j0, if_true]
  by_cases d : dimsB D = true
  · rw [if_pos d, if_pos d]
    have d' := d
    unfold dimsB at d'
    rw [Bool.and_eq_true, decide_eq_true_eq] at d'
    obtain ⟨x, hx⟩ := Option.isSome_iff_exists.1 d'.2
    by_cases c : (S.length : Int) = (D.length : Int)
    · rw [if_pos c, if_pos c]
      by_cases b1 : base < 1
      · rw [if_pos b1, if_pos b1]; exact ⟨_, rfl, rfl⟩
      · rw [if_neg b1, if_neg b1]
        by_cases b2 : base > 4096
        · rw [if_pos b2, if_pos b2]; exact ⟨_, rfl, rfl⟩
        · rw [if_neg b2, if_neg b2]
          by_cases b3 : off < 0
          · rw [if_pos b3, if_pos b3]; exact ⟨_, rfl, rfl⟩
          · rw [if_neg b3, if_neg b3]
            by_cases b4 : off ≥ base
            · rw [decide_eq_true b4]; exact ⟨_, rfl, rfl⟩
            · rw [decide_eq_false b4]
              simp only [Bool.false_eq_true, if_false]
              obtain ⟨hD, ex⟩ := dim_prod D x hx
              have hi := iView_loop D S off base (by omega) (by omega) hD (by omega) (by omega) D.length 0 k (by omega) (by omega) (fun j hj => by omega)
              simp only [loTo, hiTo, Int.add_zero] at hi
              rw [sView_loop D S off base x hx (by omega) (by omega) (by omega) (by omega) k (by omega), show impl_ViewOk.l0 k off off S S.length 0 D S off base = _ from hi]
              exact ⟨_, rfl, rfl⟩
    · rw [if_neg c, if_neg c]; exact ⟨_, rfl, rfl⟩
  · rw [if_neg d, if_neg d]; exact ⟨_, rfl, rfl⟩
theorem FnExactViewOk (D S : List Int) (off base : Int) (h0 : D.length ≤ maxLen) (_ : ∀ x ∈ D, (Lit.int .i64 x).wf = true) (h1 : S.length ≤ maxLen) (_ : ∀ x ∈ S, (Lit.int .i64 x).wf = true) (_ : (Lit.int .i64 off).wf = true) (_ : (Lit.int .i64 base).wf = true) : ∃ k, laws_FnExactViewOk.f k D S off base = some true := by
  refine ⟨(D.length + 1) * 2 + S.length + 5001, ?_⟩
  unfold laws_FnExactViewOk.f laws_szView.f
  rw [szI D _ h0 (by decide) (by decide)]; simp only [Option.bind_some]
  by_cases c0 : (1048576 : Int) < D.length
  · rw [if_pos c0]; rfl
  · rw [if_neg c0, if_neg (by omega), szI S _ h1 (by omega) (by omega)]; simp only [Option.bind_some]
    by_cases c1 : (1048576 : Int) - D.length < S.length
    · rw [if_pos c1]; rfl
    · rw [if_neg c1, if_neg (by omega)]; simp only [Option.bind_some]
      rw [if_neg (by omega)]
      unfold laws_toView.f laws_eqView.f
      rw [toIntS_ok D (by omega) _ (by omega), toIntS_ok S (by omega) _ (by omega)]; simp only [Option.bind_some]
      obtain ⟨r, e1, e2⟩ := view_same D S off base (by omega) ((D.length + 1) * 2 + S.length + 5001) (by omega)
      rw [e1, e2, eqIntS_ok D (by omega) _ (by omega), eqIntS_ok S (by omega) _ (by omega)]
      simp

end Go.Proofs.Ytbgpehoffkbgkaa.Pure
