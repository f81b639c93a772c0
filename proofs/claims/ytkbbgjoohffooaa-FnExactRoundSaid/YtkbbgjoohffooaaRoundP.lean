/- What Round comes to in plain Lean: the reference's and the program's loops answer alike. No condition. -/
import Derived.Test.YtkbbgjoohffooaaPFnExactRoundx1
import Derived.Test.YtkbbgjoohffooaaPFnExactRoundx2
import Derived.Test.YtkbbgjoohffooaaPRoundx1
import Derived.Test.YtkbbgjoohffooaaLoop
namespace Go.Proofs.Ytkbbgjoohffooaa.RoundP
open Go.RowKit Go.Proofs.Ytkbbgjoohffooaa.Aid Go.Proofs.YtkbbgjoohffooaaW.PrintWords Go.Proofs.YtkbbgjoohffooaaW.PrintLast Go.Proofs.YtkbbgjoohffooaaW.PrintMore
set_option linter.unusedVariables false
set_option linter.unusedSimpArgs false
def inB (a b c : Int) : Bool := decide (b ≤ a) && decide (a ≤ c)
theorem inB_iff (a b c : Int) : inB a b c = true ↔ b ≤ a ∧ a ≤ c := by unfold inB; simp
theorem inB_not (a b c : Int) : inB a b c = false ↔ ¬ (b ≤ a ∧ a ≤ c) := by rw [← inB_iff]; simp
theorem in_body (a b c : Int) : (if a ≥ b then (some (decide (a ≤ c))) else (some false)) = some (inB a b c) := by
  unfold inB
  by_cases h : b ≤ a
  · rw [if_pos h]; simp [h]
  · rw [if_neg h]; simp [h]
theorem ite_and (b c : Bool) : (if b = true then some c else some false) = some (b && c) := by cases b <;> rfl
theorem ite_same {α : Type} (b : Bool) (x : α) : (if b = true then x else x) = x := by cases b <;> rfl
def Small (l : List (List Int)) : Prop := l.length ≤ 1048576 ∧ ∀ j, j < l.length → (l.getD j []).length ≤ 1048576
def pre (l : List (List Int)) (i : Nat) : Nat := ((l.take i).map List.length).sum
theorem pre_succ (l : List (List Int)) (i : Nat) (h : i < l.length) : pre l (i + 1) = pre l i + (l.getD i []).length := by
  unfold pre
  rw [List.take_succ_eq_append_getElem h, List.map_append, List.sum_append, Loop.getD_lt _ _ _ h]; simp
theorem pre_bd (l : List (List Int)) (h : Small l) : ∀ i, i ≤ l.length → pre l i ≤ i * 1048576 := by
  intro i
  induction i with
  | zero => intro _; simp [pre]
  | succ i ih =>
    intro hi
    rw [pre_succ l i (by omega)]
    have := ih (by omega); have := h.2 i (by omega); omega
def fAt (l : List (List Int)) (k : Nat) : Int := (l.getD (k % l.length) []).getD (k / l.length) 0
def upto (l : List (List Int)) (i : Nat) : List Int := (List.range i).map (fAt l)
theorem upto_succ (l : List (List Int)) (i : Nat) : upto l (i + 1) = upto l i ++ [fAt l i] := by unfold upto; rw [List.range_succ, List.map_append]; rfl
theorem upto_len (l : List (List Int)) (i : Nat) : (upto l i).length = i := by unfold upto; simp
def okP (l : List (List Int)) (T : Nat) (i : Nat) : Bool := decide (((l.getD i []).length : Int) = ((T : Int) - i + l.length - 1) / l.length)
def roundI (l : List (List Int)) : List Int :=
  if l.length = 0 ∨ l.length > 64 ∨ pre l l.length > 4096 then [] else if Loop.allB (okP l (pre l l.length)) l.length 0 = true then upto l (pre l l.length) else []
theorem roundI_len (l : List (List Int)) : (roundI l).length ≤ 4096 := by
  unfold roundI
  split
  · simp
  · split
    · rw [upto_len]; omega
    · simp
/-- With all lengths right, the k-th lies within. -/
theorem lies (l : List (List Int)) (T k : Nat) (h : Loop.allB (okP l T) l.length 0 = true) (hk : k < T) (hl : 0 < l.length) : k % l.length < l.length ∧ k / l.length < (l.getD (k % l.length) []).length := by
  have hm := Nat.mod_lt k hl
  refine ⟨hm, ?_⟩
  have := (Loop.allB_iff _ _ _).1 h (k % l.length) (by omega) (by omega)
  unfold okP at this
  have e := of_decide_eq_true this
  have hd : ((k / l.length : Nat) : Int) + 1 ≤ ((T : Int) - (k % l.length : Nat) + l.length - 1) / l.length := by
    refine Int.le_ediv_of_mul_le (by omega) ?_
    have h1 := Nat.div_add_mod k l.length
    have h2 : ((l.length * (k / l.length) : Nat) : Int) = ((k / l.length : Nat) : Int) * (l.length : Int) := by rw [Nat.mul_comm, Int.natCast_mul]
    rw [Int.add_mul, Int.one_mul, ← h2]; omega
  omega
/-- As Loop.all_ix, where the end is told only when all hold. -/
theorem all_ix' {R : Type} (L : Nat → Int → Option R) (n K : Nat) (p : Nat → Bool) (bad fin : Option R)
    (hstep : ∀ k i, K ≤ k → i < n → L (k + 1) (i : Int) = if p i = true then L k ((i + 1 : Nat) : Int) else bad)
    (hend : (∀ j, j < n → p j = true) → ∀ k, K ≤ k → L (k + 1) (n : Int) = fin) :
    ∀ d i k, i + d = n → (∀ j, j < i → p j = true) → K + (d + 1) ≤ k → L k (i : Int) = if Loop.allB p d i = true then fin else bad := by
  intro d
  induction d with
  | zero =>
    intro i k h hp hk
    obtain rfl : i = n := by omega
    obtain ⟨m, rfl⟩ : ∃ m, k = m + 1 := ⟨k - 1, by omega⟩
    rw [hend hp m (by omega)]; rfl
  | succ d ih =>
    intro i k h hp hk
    obtain ⟨m, rfl⟩ : ∃ m, k = m + 1 := ⟨k - 1, by omega⟩
    rw [hstep m i (by omega) (by omega)]
    by_cases g : p i = true
    · rw [if_pos g, ih (i + 1) m (by omega) (by intro j hj; by_cases e : j = i; (· rw [e]; exact g); exact hp j (by omega)) (by omega)]; simp [Loop.allB, g]
    · rw [if_neg g]; simp [Loop.allB, g]
/-- The quotient that a part's length is held against. -/
theorem quo_bd (T i n : Nat) (hT : T ≤ 4096) (hi : i < n) (hn : n ≤ 64) : 0 ≤ ((T : Int) - i + n - 1) / n ∧ ((T : Int) - i + n - 1) / n ≤ 10000 := by
  refine ⟨Int.ediv_nonneg (by omega) (by omega), ?_⟩
  have h := Int.ediv_mul_le ((T : Int) - i + n - 1) (show (n : Int) ≠ 0 by omega)
  have h0 : 0 ≤ ((T : Int) - i + n - 1) / n := Int.ediv_nonneg (by omega) (by omega)
  have h1 := Int.mul_le_mul_of_nonneg_left (show (1 : Int) ≤ n by omega) h0
  rw [Int.mul_one] at h1
  omega
namespace A
open Go.Proofs.Ytkbbgjoohffooaa.PFnExactRound
theorem rd_nat (l : List Int) (i : Nat) : rd l (i : Int) = l.getD i 0 := by unfold rd; rw [Int.toNat_natCast]
theorem rdL_nat (l : List (List Int)) (i : Nat) : rd_L1 l (i : Int) = l.getD i [] := by unfold rd_L1; rw [Int.toNat_natCast]
theorem sL2 (l : List (List Int)) (T : Nat) (hT : T ≤ 4096) (hl : 0 < l.length) (hl2 : l.length ≤ 64) (h : Loop.allB (okP l T) l.length 0 = true) : ∀ (d i k : Nat), i + d = T → d < k → spec_Round.l2 k l (upto l i) T i = some (upto l T) := by
  intro d
  induction d with
  | zero =>
    intro i k hi hk
    obtain ⟨k, rfl⟩ : ∃ m, k = m + 1 := ⟨k - 1, by omega⟩
    obtain rfl : i = T := by omega
    simp only [spec_Round.l2]
    rw [if_neg (by omega)]
  | succ d ih =>
    intro i k hi hk
    obtain ⟨k, rfl⟩ : ∃ m, k = m + 1 := ⟨k - 1, by omega⟩
    obtain ⟨m1, m2⟩ := lies l T i h (by omega) hl
    have hdv : i / l.length ≤ i := Nat.div_le_self _ _
    have e1 : Int.tmod (i : Int) (l.length : Int) = ((i % l.length : Nat) : Int) := by rw [tmod_nn (by omega)]; rfl
    have e2 : Int.tdiv (i : Int) (l.length : Int) = ((i / l.length : Nat) : Int) := by rw [tdiv_nn (by omega)]; rfl
    have ef : fAt l i = (l.getD (i % l.length) []).getD (i / l.length) 0 := rfl
    have es := upto_succ l i
    rw [ef] at es
    clear ef
    generalize i / l.length = a at *
    generalize i % l.length = b at *
    simp only [spec_Round.l2]
    rw [if_pos (by omega), if_neg (by omega), e1, e2, wid (x := (a : Int)) (by omega) (by omega), if_pos (by omega), if_pos (by omega), if_pos (by omega), rdL_nat, if_pos (by omega), upto_len, if_pos (by omega), rd_nat, Loop.wsucc i (by omega)]
    have := ih (i + 1) k (by omega) (by omega)
    rw [es] at this
    exact this
theorem sL1 (l : List (List Int)) (T : Nat) (hT : T ≤ 4096) (hl : 0 < l.length) (hl2 : l.length ≤ 64) (k : Nat) (hk : 5000 ≤ k) : spec_Round.l1 k l [] T 0 = some (if Loop.allB (okP l T) l.length 0 = true then upto l T else []) := by
  have h' := all_ix' (fun k i => spec_Round.l1 k l [] T i) l.length 4100 (okP l T) (some []) (some (upto l T))
    (by intro k i hk hi
        have hb := quo_bd T i l.length hT hi hl2
        simp only [spec_Round.l1]
        rw [if_pos (by omega), if_pos (by omega), if_neg (by omega), rdL_nat, Loop.wsucc i (by omega), wid (x := (T : Int) + l.length) (by omega) (by omega), wid (x := (T : Int) + l.length - 1) (by omega) (by omega), wid (x := (T : Int) + l.length - 1 - i) (by omega) (by omega), tdiv_nn (by omega), show (T : Int) + l.length - 1 - i = (T : Int) - i + l.length - 1 by omega, wid (by omega) (by omega)]
        unfold okP
        by_cases c : ((l.getD i []).length : Int) = ((T : Int) - i + l.length - 1) / l.length
        · rw [if_pos c, if_pos (decide_eq_true c)]
        · rw [if_neg c, if_neg (by rw [decide_eq_false c]; decide)])
    (by intro hp k hk
        simp only [spec_Round.l1]
        rw [if_neg (by omega)]
        exact sL2 l T hT hl hl2 ((Loop.allB_iff _ _ _).2 fun j _ hj => hp j (by omega)) T 0 k (by omega) (by omega))
    l.length 0 k (by omega) (by intro j h; omega) (by omega)
  rw [show spec_Round.l1 k l [] T 0 = _ from h']
  split <;> rfl
theorem sL0 (l : List (List Int)) (hs : Small l) : ∀ (d i k : Nat), i + d = l.length → d + 6000 ≤ k → spec_Round.l0 k l [] (pre l i) i = some (roundI l) := by
  intro d
  induction d with
  | zero =>
    intro i k h hk
    obtain ⟨k, rfl⟩ : ∃ m, k = m + 1 := ⟨k - 1, by omega⟩
    obtain ⟨q, hq⟩ : ∃ q, k = q + 1 := ⟨k - 1, by omega⟩
    obtain rfl : i = l.length := by omega
    simp only [spec_Round.l0]
    rw [if_neg (by omega)]
    unfold roundI
    by_cases c1 : l.length = 0
    · rw [if_pos (by omega), if_pos (.inl c1), hq]; simp [spec_Round.j1]
    · rw [if_neg (by omega)]
      by_cases c2 : l.length > 64
      · rw [if_pos (by omega), if_pos (.inr (.inl c2)), hq]; simp [spec_Round.j1]
      · rw [if_neg (by omega), hq]
        simp only [spec_Round.j1]
        by_cases c3 : pre l l.length > 4096
        · rw [decide_eq_true (show ((pre l l.length : Nat) : Int) > 4096 by omega), if_pos rfl, if_pos (.inr (.inr c3))]
        · rw [decide_eq_false (show ¬ ((pre l l.length : Nat) : Int) > 4096 by omega), if_neg (by decide), if_neg (c := l.length = 0 ∨ l.length > 64 ∨ pre l l.length > 4096) (by omega)]
          exact sL1 l (pre l l.length) (by omega) (by omega) (by omega) q (by omega)
  | succ d ih =>
    intro i k h hk
    obtain ⟨k, rfl⟩ : ∃ m, k = m + 1 := ⟨k - 1, by omega⟩
    have b := pre_bd l hs (i + 1) (by omega)
    have b2 := hs.1
    have ep := pre_succ l i (by omega)
    simp only [spec_Round.l0]
    rw [if_pos (by omega), if_pos (by omega), rdL_nat, Loop.wsucc i (by omega), wid (by omega) (by omega), show ((pre l i : Nat) : Int) + ((l.getD i []).length : Int) = ((pre l (i + 1) : Nat) : Int) by omega]
    exact ih (i + 1) k (by omega) (by omega)
theorem sRound (l : List (List Int)) (hs : Small l) : spec_Round.f 1060000 l = some (roundI l) := by
  unfold spec_Round.f
  exact sL0 l hs l.length 0 1060000 (by omega) (by have := hs.1; omega)
theorem spec_calls (A0 : Option Addr) (c0 : Nat) (l0 : List (List Int)) (w : World) (hs : Small l0) (hr0 : Kd.C (Kd.slice 3 (Kd.int .i64)) w A0 l0.length l0) (hc0 : l0.length ≤ c0) :
    Calls Try.prog 17 #[.slice A0 l0.length c0] w fun e w' => ∃ v, e = .returned v ∧ Kd.R (Kd.int .i64) 3 w' w.heap.size (fun _ => True) v (roundI l0) ∧ Below w.heap.size w w' :=
  spec_Round.calls 1060000 A0 c0 l0 _ w hr0 hc0 (sRound l0 hs)
end A
namespace B
open Go.Proofs.Ytkbbgjoohffooaa.PRound
theorem rd_nat (l : List Int) (i : Nat) : rd l (i : Int) = l.getD i 0 := by unfold rd; rw [Int.toNat_natCast]
theorem rdL_nat (l : List (List Int)) (i : Nat) : PRound.rd_L1 l (i : Int) = l.getD i [] := by unfold PRound.rd_L1; rw [Int.toNat_natCast]
theorem iIn (a b c : Int) : impl_within.f a b c = some (inB a b c) := in_body a b c
theorem iL2 (l : List (List Int)) (T : Nat) (hT : T ≤ 4096) (hl : 0 < l.length) (hl2 : l.length ≤ 64) (h : Loop.allB (okP l T) l.length 0 = true) : ∀ (d i k : Nat), i + d = T → d < k → impl_Round.l2 k l l.length (upto l i) T i = some (upto l T) := by
  intro d
  induction d with
  | zero =>
    intro i k hi hk
    obtain ⟨k, rfl⟩ : ∃ m, k = m + 1 := ⟨k - 1, by omega⟩
    obtain rfl : i = T := by omega
    simp only [impl_Round.l2]
    rw [if_neg (by omega)]
  | succ d ih =>
    intro i k hi hk
    obtain ⟨k, rfl⟩ : ∃ m, k = m + 1 := ⟨k - 1, by omega⟩
    obtain ⟨m1, m2⟩ := lies l T i h (by omega) hl
    have hdv : i / l.length ≤ i := Nat.div_le_self _ _
    have e1 : Int.tmod (i : Int) (l.length : Int) = ((i % l.length : Nat) : Int) := by rw [tmod_nn (by omega)]; rfl
    have e2 : Int.tdiv (i : Int) (l.length : Int) = ((i / l.length : Nat) : Int) := by rw [tdiv_nn (by omega)]; rfl
    have ef : fAt l i = (l.getD (i % l.length) []).getD (i / l.length) 0 := rfl
    have es := upto_succ l i
    rw [ef] at es
    clear ef
    generalize i / l.length = a at *
    generalize i % l.length = b at *
    simp only [impl_Round.l2]
    rw [if_pos (by omega), if_neg (by omega), e1, e2, wid (x := (a : Int)) (by omega) (by omega), if_pos (by omega), if_pos (by omega), if_pos (by omega), rdL_nat, if_pos (by omega), upto_len, if_pos (by omega), rd_nat, Loop.wsucc i (by omega)]
    have := ih (i + 1) k (by omega) (by omega)
    rw [es] at this
    exact this
theorem iL1 (l : List (List Int)) (T : Nat) (hT : T ≤ 4096) (hl : 0 < l.length) (hl2 : l.length ≤ 64) (k : Nat) (hk : 5000 ≤ k) : impl_Round.l1 k l l.length T l l.length 0 = some (if Loop.allB (okP l T) l.length 0 = true then upto l T else []) := by
  have h' := all_ix' (fun k i => impl_Round.l1 k l l.length T l l.length i) l.length 4100 (okP l T) (some []) (some (upto l T))
    (by intro k i hk hi
        have hb := quo_bd T i l.length hT hi hl2
        simp only [impl_Round.l1]
        rw [if_pos (by omega), if_pos (by omega), if_pos (by omega), if_neg (by omega), rdL_nat, Loop.wsucc i (by omega), wid (x := (T : Int) - i) (by omega) (by omega), wid (x := (T : Int) - i + l.length) (by omega) (by omega), wid (x := (T : Int) - i + l.length - 1) (by omega) (by omega), tdiv_nn (by omega), wid (by omega) (by omega)]
        unfold okP
        by_cases c : ((l.getD i []).length : Int) = ((T : Int) - i + l.length - 1) / l.length
        · rw [if_pos c, if_pos (decide_eq_true c)]
        · rw [if_neg c, if_neg (by rw [decide_eq_false c]; decide)])
    (by intro hp k hk
        simp only [impl_Round.l1]
        rw [if_neg (by omega)]
        exact iL2 l T hT hl hl2 ((Loop.allB_iff _ _ _).2 fun j _ hj => hp j (by omega)) T 0 k (by omega) (by omega))
    l.length 0 k (by omega) (by intro j h; omega) (by omega)
  rw [show impl_Round.l1 k l l.length T l l.length 0 = _ from h']
  split <;> rfl
theorem iL0 (l : List (List Int)) (hs : Small l) (h0 : 0 < l.length) (h1 : l.length ≤ 64) : ∀ (d i k : Nat), i + d = l.length → d + 6000 ≤ k → impl_Round.l0 k l l.length (pre l i) l l.length i = some (roundI l) := by
  intro d
  induction d with
  | zero =>
    intro i k h hk
    obtain ⟨k, rfl⟩ : ∃ m, k = m + 1 := ⟨k - 1, by omega⟩
    obtain rfl : i = l.length := by omega
    simp only [impl_Round.l0]
    rw [if_neg (by omega)]
    unfold roundI
    by_cases c3 : pre l l.length > 4096
    · rw [if_pos (by omega), if_pos (.inr (.inr c3))]
    · rw [if_neg (by omega), if_neg (c := l.length = 0 ∨ l.length > 64 ∨ pre l l.length > 4096) (by omega)]
      exact iL1 l (pre l l.length) (by omega) (by omega) (by omega) k (by omega)
  | succ d ih =>
    intro i k h hk
    obtain ⟨k, rfl⟩ : ∃ m, k = m + 1 := ⟨k - 1, by omega⟩
    have b := pre_bd l hs (i + 1) (by omega)
    have b2 := hs.1
    have ep := pre_succ l i (by omega)
    simp only [impl_Round.l0]
    rw [if_pos (by omega), if_pos (by omega), if_pos (by omega), rdL_nat, Loop.wsucc i (by omega), wid (by omega) (by omega), show ((pre l i : Nat) : Int) + ((l.getD i []).length : Int) = ((pre l (i + 1) : Nat) : Int) by omega]
    exact ih (i + 1) k (by omega) (by omega)
theorem iRound (l : List (List Int)) (hs : Small l) : impl_Round.f 1060000 l = some (roundI l) := by
  unfold impl_Round.f
  rw [iIn]; simp only [Option.bind_some]
  by_cases c : 0 < l.length ∧ l.length ≤ 64
  · rw [if_pos ((inB_iff _ _ _).2 (by omega))]
    exact iL0 l hs c.1 c.2 l.length 0 1060000 (by omega) (by omega)
  · rw [if_neg (fun h => by have := (inB_iff _ _ _).1 h; omega)]
    unfold roundI
    rw [if_pos (by omega)]
theorem impl_calls (A0 : Option Addr) (c0 : Nat) (l0 : List (List Int)) (w : World) (hs : Small l0) (hr0 : Kd.C (Kd.slice 3 (Kd.int .i64)) w A0 l0.length l0) (hc0 : l0.length ≤ c0) :
    Calls Try.prog 19 #[.slice A0 l0.length c0] w fun e w' => ∃ v, e = .returned v ∧ Kd.R (Kd.int .i64) 3 w' w.heap.size (fun _ => True) v (roundI l0) ∧ Below w.heap.size w w' :=
  impl_Round.calls 1060000 A0 c0 l0 _ w hr0 hc0 (iRound l0 hs)
end B
end Go.Proofs.Ytkbbgjoohffooaa.RoundP
