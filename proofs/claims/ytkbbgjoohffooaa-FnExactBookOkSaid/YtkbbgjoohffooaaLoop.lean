/- Loops over an index in plain Lean: what a printed loop comes to, as a run of steps. No condition. -/
import Derived.Test.YtkbbgjoohffooaaAid
namespace Go.Proofs.Ytkbbgjoohffooaa.Loop
open Go.RowKit Go.Proofs.Ytkbbgjoohffooaa.Aid

/-- d rounds from index i on: a step ends the run with an answer, or goes on with a state. -/
def runIx {S R : Type} (step : Nat → S → Option R ⊕ S) (fin : S → Option R) : Nat → Nat → S → Option R
  | 0, _, s => fin s
  | d + 1, i, s => match step i s with
    | .inl r => r
    | .inr s' => runIx step fin d (i + 1) s'

theorem run_ix {S R : Type} (L : Nat → Int → S → Option R) (n c K : Nat) (step : Nat → S → Option R ⊕ S) (fin : S → Option R)
    (hstep : ∀ k i s, K ≤ k → i < n → L (k + c) (i : Int) s = match step i s with
      | .inl r => r
      | .inr s' => L k ((i + 1 : Nat) : Int) s')
    (hend : ∀ k s, K ≤ k → L (k + c) (n : Int) s = fin s) :
    ∀ d i k s, i + d = n → K + (d + 1) * c ≤ k → L k (i : Int) s = runIx step fin d i s := by
  intro d
  induction d with
  | zero =>
    intro i k s h hk
    obtain rfl : i = n := by omega
    obtain ⟨m, rfl⟩ : ∃ m, k = m + c := ⟨k - c, by omega⟩
    exact hend m s (by omega)
  | succ d ih =>
    intro i k s h hk
    have e : (d + 1 + 1) * c = (d + 1) * c + c := Nat.succ_mul _ _
    obtain ⟨m, rfl⟩ : ∃ m, k = m + c := ⟨k - c, by omega⟩
    have hm : K ≤ m := by
      have : K + (d + 1) * c ≤ m := by omega
      exact Nat.le_trans (Nat.le_add_right _ _) this
    rw [hstep m i s hm (by omega)]
    show _ = (match step i s with
      | .inl r => r
      | .inr s' => runIx step fin d (i + 1) s')
    cases step i s with
    | inl r => rfl
    | inr s' => exact ih (i + 1) m s' (by omega) (by omega)

/-- A run whose answers are all there gives one. -/
theorem run_some {S R : Type} (step : Nat → S → Option R ⊕ S) (fin : S → Option R) (h1 : ∀ i s r, step i s = .inl r → ∃ x, r = some x) (h2 : ∀ s, ∃ x, fin s = some x) :
    ∀ d i s, ∃ x, runIx step fin d i s = some x := by
  intro d
  induction d with
  | zero => intro i s; exact h2 s
  | succ d ih =>
    intro i s
    show ∃ x, (match step i s with
      | .inl r => r
      | .inr s' => runIx step fin d (i + 1) s') = some x
    cases h : step i s with
    | inl r => exact h1 i s r h
    | inr s' => exact ih (i + 1) s'

/-- With an invariant. -/
theorem run_inv {S R : Type} (step : Nat → S → Option R ⊕ S) (fin : S → Option R) (I : Nat → S → Prop) (Q : Option R → Prop) (n : Nat)
    (h1 : ∀ i s r, i < n → I i s → step i s = .inl r → Q r) (h2 : ∀ i s s', i < n → I i s → step i s = .inr s' → I (i + 1) s') (h3 : ∀ s, I n s → Q (fin s)) :
    ∀ d i s, i + d = n → I i s → Q (runIx step fin d i s) := by
  intro d
  induction d with
  | zero => intro i s h hi; obtain rfl : i = n := by omega
            exact h3 s hi
  | succ d ih =>
    intro i s h hi
    show Q (match step i s with
      | .inl r => r
      | .inr s' => runIx step fin d (i + 1) s')
    cases e : step i s with
    | inl r => exact h1 i s r (by omega) hi e
    | inr s' => exact ih (i + 1) s' (by omega) (h2 i s s' (by omega) hi e)

/-- Two runs whose steps agree. -/
theorem run_congr {S R : Type} (step step' : Nat → S → Option R ⊕ S) (fin : S → Option R) (n : Nat) (h : ∀ i s, i < n → step i s = step' i s) :
    ∀ d i s, i + d = n → runIx step fin d i s = runIx step' fin d i s := by
  intro d
  induction d with
  | zero => intro i s _; rfl
  | succ d ih =>
    intro i s hd
    show (match step i s with
      | .inl r => r
      | .inr s' => runIx step fin d (i + 1) s') = (match step' i s with
      | .inl r => r
      | .inr s' => runIx step' fin d (i + 1) s')
    rw [h i s (by omega)]
    cases step' i s with
    | inl r => rfl
    | inr s' => exact ih (i + 1) s' (by omega)

theorem wsucc (i : Nat) (h : i < 9223372036854775807) : wrap64 ((i : Int) + 1) = ((i + 1 : Nat) : Int) := by
  rw [wid (by omega) (by omega)]; omega

theorem getD_lt {α : Type} (l : List α) (i : Nat) (d : α) (h : i < l.length) : l.getD i d = l[i] := by
  simp [List.getD, h]
theorem getD_set_ne {α : Type} (l : List α) (i j : Nat) (v d : α) (h : j ≠ i) : (l.set i v).getD j d = l.getD j d := by
  have : (l.set i v)[j]? = l[j]? := List.getElem?_set_ne (fun e => h e.symm)
  simp only [List.getD_eq_getElem?_getD, this]
theorem getD_set_eq {α : Type} (l : List α) (i : Nat) (v d : α) (h : i < l.length) : (l.set i v).getD i d = v := by
  simp [h]
/-- p holds at d places from i on. -/
def allB (p : Nat → Bool) : Nat → Nat → Bool
  | 0, _ => true
  | d + 1, i => p i && allB p d (i + 1)
theorem allB_iff (p : Nat → Bool) : ∀ d i, allB p d i = true ↔ ∀ j, i ≤ j → j < i + d → p j = true := by
  intro d
  induction d with
  | zero => intro i; simp [allB]; intro j h1 h2; omega
  | succ d ih =>
    intro i
    simp only [allB, Bool.and_eq_true, ih]
    constructor
    · rintro ⟨h1, h2⟩ j hj hj'
      by_cases e : j = i
      · rw [e]; exact h1
      · exact h2 j (by omega) (by omega)
    · intro h
      exact ⟨h i (by omega) (by omega), fun j h1 h2 => h j (by omega) (by omega)⟩
/-- A loop that asks p of each place and ends with 'bad' at the first that has it not. -/
theorem all_ix {R : Type} (L : Nat → Int → Option R) (n c K : Nat) (p : Nat → Bool) (bad fin : Option R)
    (hstep : ∀ k i, K ≤ k → i < n → L (k + c) (i : Int) = if p i = true then L k ((i + 1 : Nat) : Int) else bad)
    (hend : ∀ k, K ≤ k → L (k + c) (n : Int) = fin) :
    ∀ d i k, i + d = n → K + (d + 1) * c ≤ k → L k (i : Int) = if allB p d i = true then fin else bad := by
  intro d
  induction d with
  | zero =>
    intro i k h hk
    obtain rfl : i = n := by omega
    obtain ⟨m, rfl⟩ : ∃ m, k = m + c := ⟨k - c, by omega⟩
    rw [hend m (by omega)]; rfl
  | succ d ih =>
    intro i k h hk
    have e : (d + 1 + 1) * c = (d + 1) * c + c := Nat.succ_mul _ _
    obtain ⟨m, rfl⟩ : ∃ m, k = m + c := ⟨k - c, by omega⟩
    have hm : K ≤ m := by
      have : K + (d + 1) * c ≤ m := by omega
      exact Nat.le_trans (Nat.le_add_right _ _) this
    rw [hstep m i hm (by omega)]
    by_cases g : p i = true
    · rw [if_pos g, ih (i + 1) m (by omega) (by omega)]; simp [allB, g]
    · rw [if_neg g]; simp [allB, g]
end Go.Proofs.Ytkbbgjoohffooaa.Loop
