/- The plain law of MovesOk: what the reference computes, as one Bool. No condition. -/
import Derived.Test.YtkbbgjoohffooaaPFnExactMovesOkx1
import Derived.Test.YtkbbgjoohffooaaPFnExactMovesOkx2
import Derived.Test.YtkbbgjoohffooaaPFnExactMovesOkx3
import Derived.Test.YtkbbgjoohffooaaAid
namespace Go.Proofs.Ytkbbgjoohffooaa.MovesP
open Go.RowKit Go.Proofs.Ytkbbgjoohffooaa.Aid Go.Proofs.Ytkbbgjoohffooaa.PFnExactMovesOk Go.Proofs.YtkbbgjoohffooaaW.PrintWords Go.Proofs.YtkbbgjoohffooaaW.PrintLast Go.Proofs.YtkbbgjoohffooaaW.PrintMore
set_option linter.unusedVariables false
set_option linter.unusedSimpArgs false
set_option linter.unusedSectionVars false
def inB (a b c : Int) : Bool := decide (b ≤ a) && decide (a ≤ c)
theorem inB_iff (a b c : Int) : inB a b c = true ↔ b ≤ a ∧ a ≤ c := by unfold inB; simp
theorem inB_not (a b c : Int) : inB a b c = false ↔ ¬ (b ≤ a ∧ a ≤ c) := by rw [← inB_iff]; simp
theorem in_body (a b c : Int) : (if a ≥ b then (some (decide (a ≤ c))) else (some false)) = some (inB a b c) := by
  unfold inB
  by_cases h : b ≤ a
  · rw [if_pos h]; simp [h]
  · rw [if_neg h]; simp [h]
theorem ite_and (b c : Bool) : (if b = true then some c else some false) = some (b && c) := by cases b <;> rfl
theorem ite_same {α : Type} (b : Bool) (x : α) : (if b = true then x else x) = x := by cases b <;> rfl
theorem sIn (a b c : Int) : spec_l5In.f a b c = some (inB a b c) := by unfold spec_l5In.f; exact in_body a b c
/-- From some fuel on the answer is v. -/
def Ev {α : Type} (f : Nat → Option α) (v : α) : Prop := ∃ K, ∀ k, K ≤ k → f k = some v
theorem Ev.step {α : Type} {f g : Nat → Option α} {v : α} (h : Ev g v) (e : ∀ k, f (k + 1) = g k) : Ev f v := by
  obtain ⟨K, hK⟩ := h
  refine ⟨K + 1, fun k hk => ?_⟩
  obtain ⟨k, rfl⟩ : ∃ m, k = m + 1 := ⟨k - 1, by omega⟩
  rw [e, hK k (by omega)]
theorem Ev.now {α : Type} {f : Nat → Option α} {v : α} (e : ∀ k, f (k + 1) = some v) : Ev f v := by
  refine ⟨1, fun k hk => ?_⟩
  obtain ⟨k, rfl⟩ : ∃ m, k = m + 1 := ⟨k - 1, by omega⟩
  exact e k
def keyM (m : S69) : Int × Int := (m.f1, m.f2)
/-- One move alone. -/
def moveB (n c : Int) (m : S69) : Bool := inB m.f0 0 (n - 1) && inB m.f1 0 (n - 1) && !(m.f0 == m.f1) && inB m.f2 0 (c - 1)
def rowB (n c : Int) : List (Int × Int) → List S69 → Bool
  | _, [] => true
  | seen, m :: r => moveB n c m && !(decide (keyM m ∈ seen)) && rowB n c (seen ++ [keyM m]) r
def movesB (n c : Int) : Int → List (List S69) → Bool
  | _, [] => true
  | s, r :: t => decide (s + r.length ≤ 5000) && (rowB n c [] r && movesB n c (s + r.length) t)
def fullB (L : List (List S69)) (n c : Int) : Bool := inB n 1 64 && inB c 1 64 && decide ((L.length : Int) ≤ 300) && movesB n c 0 L
/-- The keys ahead of a place. -/
def seenM (row : List S69) (i : Nat) : List (Int × Int) := (row.take i).map keyM
theorem rdT (row : List S69) (i : Nat) (h : i < row.length) : rd_T69 row (i : Int) = row[i] := by
  unfold rd_T69
  rw [Int.toNat_natCast, List.getD_eq_getElem?_getD, List.getElem?_eq_getElem h]; rfl
theorem rdL (L : List (List S69)) (i : Nat) (h : i < L.length) : rd_L3 L (i : Int) = L[i] := by
  unfold rd_L3
  rw [Int.toNat_natCast, List.getD_eq_getElem?_getD, List.getElem?_eq_getElem h]; rfl
theorem seen_succ (row : List S69) (i : Nat) (h : i < row.length) : seenM row (i + 1) = seenM row i ++ [keyM row[i]] := by
  unfold seenM
  rw [List.take_add_one, List.map_append, List.getElem?_eq_getElem h]; rfl
theorem row_step (n c : Int) (row : List S69) (i : Nat) (h : i < row.length) :
    rowB n c (seenM row i) (row.drop i) = (moveB n c row[i] && !(decide (keyM row[i] ∈ seenM row i)) && rowB n c (seenM row (i + 1)) (row.drop (i + 1))) := by
  rw [List.drop_eq_getElem_cons h, seen_succ row i h]; rfl
theorem moves_step (n c s : Int) (L : List (List S69)) (r : Nat) (h : r < L.length) :
    movesB n c s (L.drop r) = (decide (s + L[r].length ≤ 5000) && (rowB n c [] L[r] && movesB n c (s + L[r].length) (L.drop (r + 1)))) := by
  rw [List.drop_eq_getElem_cons h]; rfl
theorem seen_mem (row : List S69) (i : Nat) (p : Int × Int) : p ∈ seenM row i ↔ ∃ t, t < i ∧ ∃ h : t < row.length, keyM row[t] = p := by
  unfold seenM
  rw [List.mem_map]
  constructor
  · rintro ⟨m, hm, rfl⟩
    obtain ⟨t, ht, e⟩ := List.mem_iff_getElem.1 hm
    rw [List.length_take] at ht
    exact ⟨t, by omega, by omega, by rw [← e, List.getElem_take]⟩
  · rintro ⟨t, ht, hl, rfl⟩
    exact ⟨row[t], List.mem_iff_getElem.2 ⟨t, by rw [List.length_take]; omega, by rw [List.getElem_take]⟩, rfl⟩
section
variable (L : List (List S69)) (n c : Int) (s : Int) (r : Nat) (hr : r < L.length) (hL : L.length ≤ 1048576) (hrow : L[r].length ≤ 1048576)
include hr hL hrow
theorem l2_false (i : Nat) (hi : i < L[r].length) (z0 z1 z2 : Int) (z3 : Bool) : ∀ (d j : Nat), j + d = i → (∃ t, j ≤ t ∧ t < i ∧ ∃ h : t < L[r].length, keyM L[r][t] = (z1, z2)) → Ev (fun k => spec_MovesOk.l2 k L n c s r i j z0 z1 z2 z3) false := by
  intro d
  induction d with
  | zero => intro j e ⟨t, h1, h2, _⟩; omega
  | succ d ih =>
    intro j e ⟨t, h1, h2, h3, h4⟩
    by_cases cc : keyM L[r][j] = (z1, z2)
    · refine Ev.now fun k => ?_
      simp only [spec_MovesOk.l2]
      rw [rdL L r hr, rdT _ j (by omega)]
      simp only [keyM, Prod.mk.injEq] at cc
      rw [if_pos (by omega), if_pos (by omega), if_pos (by omega), if_pos (by omega), if_pos (by omega), if_pos cc.1, if_pos cc.2]
    · have hne : t ≠ j := fun e => by subst e; exact cc h4
      refine Ev.step (ih (j + 1) (by omega) ⟨t, by omega, h2, h3, h4⟩) fun k => ?_
      simp only [spec_MovesOk.l2]
      rw [rdL L r hr, rdT _ j (by omega), wid (x := (j : Int) + 1) (by omega) (by omega)]
      rw [if_pos (by omega), if_pos (by omega), if_pos (by omega), if_pos (by omega), if_pos (by omega)]
      simp only [keyM, Prod.mk.injEq] at cc
      by_cases c1 : L[r][j].f1 = z1
      · rw [if_pos c1, if_neg (fun c2 => cc ⟨c1, c2⟩)]; rfl
      · rw [if_neg c1]; rfl
theorem l2_true (i : Nat) (hi : i < L[r].length) (z0 z1 z2 : Int) (z3 : Bool) (v : Bool) (hv : Ev (fun k => spec_MovesOk.l1 k L n c s r ((i + 1 : Nat) : Int)) v) : ∀ (d j : Nat), j + d = i → (∀ t, j ≤ t → t < i → ∀ h : t < L[r].length, keyM L[r][t] ≠ (z1, z2)) → Ev (fun k => spec_MovesOk.l2 k L n c s r i j z0 z1 z2 z3) v := by
  intro d
  induction d with
  | zero =>
    intro j e _
    refine Ev.step hv fun k => ?_
    simp only [spec_MovesOk.l2]
    rw [if_neg (by omega), wid (x := (i : Int) + 1) (by omega) (by omega)]; rfl
  | succ d ih =>
    intro j e no
    refine Ev.step (ih (j + 1) (by omega) (fun t a b => no t (by omega) b)) fun k => ?_
    have cc := no j (Nat.le_refl _) (by omega) (by omega)
    simp only [spec_MovesOk.l2]
    rw [rdL L r hr, rdT _ j (by omega), wid (x := (j : Int) + 1) (by omega) (by omega)]
    rw [if_pos (by omega), if_pos (by omega), if_pos (by omega), if_pos (by omega), if_pos (by omega)]
    simp only [keyM, ne_eq, Prod.mk.injEq] at cc
    by_cases c1 : L[r][j].f1 = z1
    · rw [if_pos c1, if_neg (fun c2 => cc ⟨c1, c2⟩)]; rfl
    · rw [if_neg c1]; rfl
theorem l1_ev (hn : 1 ≤ n ∧ n ≤ 64) (hc : 1 ≤ c ∧ c ≤ 64) (v : Bool) (hv : Ev (fun k => spec_MovesOk.l0 k L n c s ((r + 1 : Nat) : Int)) v) : ∀ (d i : Nat), i + d = L[r].length → Ev (fun k => spec_MovesOk.l1 k L n c s r i) (rowB n c (seenM L[r] i) (L[r].drop i) && v) := by
  intro d
  induction d with
  | zero =>
    intro i e
    have e' : i = L[r].length := by omega
    rw [List.drop_eq_nil_of_le (by omega)]
    refine Ev.step (by simpa [rowB] using hv) fun k => ?_
    simp only [spec_MovesOk.l1]
    rw [rdL L r hr, if_pos (by omega), if_pos (by omega), if_neg (by omega), wid (x := (r : Int) + 1) (by omega) (by omega)]
  | succ d ih =>
    intro i e
    have hi : i < L[r].length := by omega
    rw [row_step n c L[r] i hi]
    have j3 : ∀ (b : Bool) (z0 : Int) (z3 : Bool), Ev (fun k => spec_MovesOk.j3 k L n c s r i b z0 L[r][i].f1 L[r][i].f2 z3) (!b && !(decide (keyM L[r][i] ∈ seenM L[r] i)) && (rowB n c (seenM L[r] (i + 1)) (L[r].drop (i + 1)) && v)) := by
      intro b z0 z3
      cases b with
      | true => exact Ev.now fun k => by simp only [spec_MovesOk.j3]; rfl
      | false =>
        have cast : Ev (fun k => spec_MovesOk.l2 k L n c s r i ((0 : Nat) : Int) z0 L[r][i].f1 L[r][i].f2 z3) (!(decide (keyM L[r][i] ∈ seenM L[r] i)) && (rowB n c (seenM L[r] (i + 1)) (L[r].drop (i + 1)) && v)) := by
          by_cases cm : keyM L[r][i] ∈ seenM L[r] i
          · have := l2_false L n c s r hr hL hrow i hi z0 L[r][i].f1 L[r][i].f2 z3 i 0 (by omega) (by
              obtain ⟨t, h1, h2, h3⟩ := (seen_mem _ _ _).1 cm
              exact ⟨t, by omega, h1, h2, h3⟩)
            simpa [cm] using this
          · have := l2_true L n c s r hr hL hrow i hi z0 L[r][i].f1 L[r][i].f2 z3 _ (ih (i + 1) (by omega)) i 0 (by omega) (by
              intro t _ h2 h3 h4
              exact cm ((seen_mem _ _ _).2 ⟨t, h2, h3, h4⟩))
            simpa [cm] using this
        refine Ev.step cast fun k => ?_
        simp only [spec_MovesOk.j3]
        rw [if_neg (by decide)]; rfl
    have hb : ∀ k, spec_MovesOk.l1 (k + 1) L n c s r i = spec_MovesOk.j3 k L n c s r i (!(moveB n c L[r][i])) L[r][i].f0 L[r][i].f1 L[r][i].f2 L[r][i].f3 := by
      intro k
      simp only [spec_MovesOk.l1]
      rw [rdL L r hr, rdT _ i hi, if_pos (by omega), if_pos (by omega), if_pos (by omega), if_pos (by omega), wid (x := n - 1) (by omega) (by omega), wid (x := c - 1) (by omega) (by omega)]
      simp only [sIn, Option.bind_some, moveB]
      cases b0 : inB L[r][i].f0 0 (n - 1) with
      | false => simp
      | true =>
        cases b1 : inB L[r][i].f1 0 (n - 1) with
        | false => simp
        | true =>
          by_cases c0 : L[r][i].f0 = L[r][i].f1
          · simp [c0]
          · have cb : (L[r][i].f0 == L[r][i].f1) = false := by simp [c0]
            simp [c0, cb]
    have := j3 (!(moveB n c L[r][i])) L[r][i].f0 L[r][i].f3
    rw [Bool.not_not, ← Bool.and_assoc] at this
    exact Ev.step this hb
end
theorem l0_ev (L : List (List S69)) (n c : Int) (hL : L.length ≤ 1048576) (hrow : ∀ x ∈ L, x.length ≤ 1048576) (hn : 1 ≤ n ∧ n ≤ 64) (hc : 1 ≤ c ∧ c ≤ 64) : ∀ (d r : Nat) (s : Int), r + d = L.length → 0 ≤ s → s ≤ 5000 → Ev (fun k => spec_MovesOk.l0 k L n c s r) (movesB n c s (L.drop r)) := by
  intro d
  induction d with
  | zero =>
    intro r s e _ _
    rw [List.drop_eq_nil_of_le (by omega)]
    refine Ev.now fun k => ?_
    simp only [spec_MovesOk.l0]
    rw [if_neg (by omega)]; rfl
  | succ d ih =>
    intro r s e s0 s1
    have hr : r < L.length := by omega
    have hrr := hrow L[r] (List.getElem_mem hr)
    rw [moves_step n c s L r hr]
    by_cases cs : s + (L[r].length : Int) ≤ 5000
    · have h1 := l1_ev L n c (s + L[r].length) r hr hL hrr hn hc _ (ih (r + 1) (s + L[r].length) (by omega) (by omega) cs) L[r].length 0 (by omega)
      rw [decide_eq_true cs, Bool.true_and]
      refine Ev.step h1 fun k => ?_
      simp only [spec_MovesOk.l0]
      rw [if_pos (by omega), if_pos (by omega), rdL L r hr, wid (x := s + (L[r].length : Int)) (by omega) (by omega), if_neg (by omega)]; rfl
    · rw [decide_eq_false cs, Bool.false_and]
      refine Ev.now fun k => ?_
      simp only [spec_MovesOk.l0]
      rw [if_pos (by omega), if_pos (by omega), rdL L r hr, wid (x := s + (L[r].length : Int)) (by omega) (by omega), if_pos (by omega)]
theorem spec_ev (L : List (List S69)) (n c : Int) (hL : L.length ≤ 1048576) (hrow : ∀ x ∈ L, x.length ≤ 1048576) : Ev (fun k => spec_MovesOk.f k L n c) (fullB L n c) := by
  unfold fullB
  have j0t : Ev (fun k => spec_MovesOk.j0 k L n c true) false := Ev.now fun k => by simp only [spec_MovesOk.j0]; rfl
  cases b0 : inB n 1 64 with
  | false =>
    simp only [Bool.false_and]
    obtain ⟨K, hK⟩ := j0t
    exact ⟨K, fun k hk => by simp only [spec_MovesOk.f, sIn, b0, Option.bind_some]; exact hK k hk⟩
  | true =>
    cases b1 : inB c 1 64 with
    | false =>
      simp only [Bool.true_and, Bool.false_and]
      obtain ⟨K, hK⟩ := j0t
      exact ⟨K, fun k hk => by simp only [spec_MovesOk.f, sIn, b0, b1, Option.bind_some]; exact hK k hk⟩
    | true =>
      simp only [Bool.true_and]
      have hn := (inB_iff _ _ _).1 b0
      have hc := (inB_iff _ _ _).1 b1
      by_cases cl : (L.length : Int) ≤ 300
      · have h := l0_ev L n c hL hrow hn hc L.length 0 0 (by omega) (by decide) (by decide)
        rw [decide_eq_true cl, Bool.true_and]
        have h2 : Ev (fun k => spec_MovesOk.j0 k L n c false) (movesB n c 0 L) := Ev.step h fun k => by simp only [spec_MovesOk.j0]; rfl
        obtain ⟨K, hK⟩ := h2
        refine ⟨K, fun k hk => ?_⟩
        simp only [spec_MovesOk.f, sIn, b0, b1, Option.bind_some]
        rw [if_pos trivial, if_pos trivial, decide_eq_false (by omega)]
        exact hK k hk
      · rw [decide_eq_false cl, Bool.false_and]
        obtain ⟨K, hK⟩ := j0t
        refine ⟨K, fun k hk => ?_⟩
        simp only [spec_MovesOk.f, sIn, b0, b1, Option.bind_some]
        rw [if_pos trivial, if_pos trivial, decide_eq_true (by omega)]
        exact hK k hk
end Go.Proofs.Ytkbbgjoohffooaa.MovesP
