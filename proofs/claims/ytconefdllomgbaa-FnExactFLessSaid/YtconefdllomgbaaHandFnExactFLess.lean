/- laws.FnExactFLess, walked: the statements' order is IEEE 754's. No condition. -/
import Derived.Test.YtconefdllomgbaaFSpec
import Derived.KernelRfl
namespace Go.Proofs.Ytconefdllomgbaa.PFnExactFLess
open Go.RowKit Go.Proofs.Ytconefdllomgbaa.Aid Go.Proofs.Ytconefdllomgbaa.FPlain Go.Proofs.Ytconefdllomgbaa.FWalk Go.Proofs.Ytconefdllomgbaa.FOpen Go.Proofs.Ytconefdllomgbaa.FSpec Go.Proofs.Ytconefdllomgbaa.PFnExactFMul Go.Proofs.YtconefdllomgbaaW.PrintWords Go.Proofs.YtconefdllomgbaaW.PrintLast Go.Proofs.YtconefdllomgbaaW.PrintMore
set_option linter.unusedVariables false
set_option linter.unusedSimpArgs false
theorem run_kind (k : Int) (n : Bool) (m e : Int) (W : World) : (Instr.field 30 (.agg #[.int .i64 k, .bool n, .int .i64 m, .int .i64 e]) 0).run Try.prog W = .ok (.int .i64 k) W := by
  kernel_rfl
def rank (a : Int) : Int := if a / 2147483648 = 1 then wrap64 (-(Go.bits .and .i64 a 2147483647)) else a
theorem rank_calls (a : Int) (w : World) : Calls Try.prog 33 #[.int .i64 a] w fun e w' => e = .returned (.int .i64 (rank a)) ∧ Drawn0 w w' := by
  by_cases c : a / 2147483648 = 1
  · have cb : (a / 2147483648 == 1) = true := beq_iff_eq.mpr c
    have E := Aside0.mk (show rank a = wrap64 (-(Go.bits .and .i64 a 2147483647)) by unfold rank; rw [if_pos c])
    clear c
    go_enter Try.func33, Try.ntmps33
    go_wp2
    go_ret
    exact ⟨FWalk.ret_int E.out.symm, by repeat (first | exact Drawn0.refl _ | apply Drawn0.step)⟩
  · have cb : (a / 2147483648 == 1) = false := beq_eq_false_iff_ne.mpr c
    have E := Aside0.mk (show rank a = a by unfold rank; rw [if_neg c])
    clear c
    go_enter Try.func33, Try.ntmps33
    go_wp2
    go_ret
    exact ⟨FWalk.ret_int E.out.symm, by repeat (first | exact Drawn0.refl _ | apply Drawn0.step)⟩
set_option maxRecDepth 100000 in
set_option maxHeartbeats 4000000 in
theorem less_nan (a b : Int) (n1 : Bool) (hA : ∀ w, Calls Try.prog 27 #[.int .i64 a] w fun e w' => e = .returned (.agg #[.int .i64 2, .bool n1, .int .i64 0, .int .i64 0]) ∧ Below w.heap.size w w') (w : World) :
    Calls Try.prog 17 #[.int .i64 a, .int .i64 b] w fun e w' => e = .returned (.bool false) ∧ Below w.heap.size w w' := by
  have hu30 := Try.underlying30
  have hrk := run_kind
  go_enter Try.func17, Try.ntmps17
  go_wp2_with fail
  refine (hA _).mono ?_
  rintro e w1 ⟨rfl, b1⟩
  go_wp2_with fail
  go_ret
  exact ⟨rfl, b1⟩
set_option maxRecDepth 100000 in
set_option maxHeartbeats 4000000 in
theorem nan_less (a b : Int) (n1 n2 : Bool) (k1 m1 e1 : Int) (hk : (k1 == 2) = false)
    (hA : ∀ w, Calls Try.prog 27 #[.int .i64 a] w fun e w' => e = .returned (.agg #[.int .i64 k1, .bool n1, .int .i64 m1, .int .i64 e1]) ∧ Below w.heap.size w w')
    (hB : ∀ w, Calls Try.prog 27 #[.int .i64 b] w fun e w' => e = .returned (.agg #[.int .i64 2, .bool n2, .int .i64 0, .int .i64 0]) ∧ Below w.heap.size w w') (w : World) :
    Calls Try.prog 17 #[.int .i64 a, .int .i64 b] w fun e w' => e = .returned (.bool false) ∧ Below w.heap.size w w' := by
  have hu30 := Try.underlying30
  have hrk := run_kind
  go_enter Try.func17, Try.ntmps17
  go_wp2_with fail
  refine (hA _).mono ?_
  rintro e w1 ⟨rfl, b1⟩
  go_wp2_with fail
  refine (hB _).mono ?_
  rintro e w2 ⟨rfl, b2⟩
  go_wp2_with fail
  go_ret
  exact ⟨rfl, below_step b1 b2⟩
set_option maxRecDepth 100000 in
set_option maxHeartbeats 4000000 in
theorem less_less (a b : Int) (n1 n2 : Bool) (k1 m1 e1 k2 m2 e2 : Int) (hk : (k1 == 2) = false) (hk2 : (k2 == 2) = false)
    (hA : ∀ w, Calls Try.prog 27 #[.int .i64 a] w fun e w' => e = .returned (.agg #[.int .i64 k1, .bool n1, .int .i64 m1, .int .i64 e1]) ∧ Below w.heap.size w w')
    (hB : ∀ w, Calls Try.prog 27 #[.int .i64 b] w fun e w' => e = .returned (.agg #[.int .i64 k2, .bool n2, .int .i64 m2, .int .i64 e2]) ∧ Below w.heap.size w w') (w : World) :
    Calls Try.prog 17 #[.int .i64 a, .int .i64 b] w fun e w' => e = .returned (.bool (decide (rank a < rank b))) ∧ Below w.heap.size w w' := by
  have hu30 := Try.underlying30
  have hrk := run_kind
  have hRA := rank_calls a
  have hRB := rank_calls b
  generalize rank a = ra at hRA ⊢
  generalize rank b = rb at hRB ⊢
  go_enter Try.func17, Try.ntmps17
  go_wp2_with fail
  refine (hA _).mono ?_
  rintro e w1 ⟨rfl, b1⟩
  go_wp2_with fail
  refine (hB _).mono ?_
  rintro e w2 ⟨rfl, b2⟩
  go_wp2_with fail
  refine (hRA _).mono ?_
  rintro e w3 ⟨rfl, ⟨i3, rfl⟩⟩
  go_wp2_with fail
  refine (hRB _).mono ?_
  rintro e w4 ⟨rfl, ⟨i4, rfl⟩⟩
  go_wp2_with fail
  go_ret
  exact ⟨rfl, by first | exact (below_step b1 b2) | (repeat (first | exact below_step b1 b2 | apply pw_below_drewN | apply below_drew1))⟩
/-- The place of a float among the floats. -/
def sgnd (n : Bool) (R : Int) : Int := if n then -R else R
theorem rank_eq (a : Int) (n : Bool) (R : Int) (h0 : 0 ≤ R) (h1 : R < 2147483648) (ha : a = (sgn n : Int) + R) : rank a = sgnd n R := by
  have hm : Go.bits .and .i64 a 2147483647 = a % 2147483648 := by
    have := and_low 31 (by decide) a
    rw [show ((2 : Int) ^ 31 - 1) = 2147483647 by decide, show ((2 : Int) ^ 31) = 2147483648 by decide] at this
    exact this
  unfold rank sgnd
  rw [hm]
  cases n
  · have : (sgn false : Int) = 0 := rfl
    rw [if_neg (by omega), if_neg (by decide)]; omega
  · have : (sgn true : Int) = 2147483648 := rfl
    rw [if_pos (by omega), if_pos rfl, wid (by omega) (by omega)]; omega
theorem lt_some (x y : Int) : (some (compare x y) == some Ordering.lt) = decide (x < y) := by
  have : compare x y = (if x < y then .lt else if x = y then .eq else .gt) := rfl
  rw [this]
  by_cases c : x < y
  · rw [if_pos c, decide_eq_true c]; rfl
  · rw [if_neg c, decide_eq_false c]
    by_cases d : x = y
    · rw [if_pos d]; rfl
    · rw [if_neg d]; rfl
theorem lt_some_nat (x y : Nat) : (some (compare x y) == some Ordering.lt) = decide (x < y) := by
  have : compare x y = (if x < y then .lt else if x = y then .eq else .gt) := rfl
  rw [this]
  by_cases c : x < y
  · rw [if_pos c, decide_eq_true c]; rfl
  · rw [if_neg c, decide_eq_false c]
    by_cases d : x = y
    · rw [if_pos d]; rfl
    · rw [if_neg d]; rfl
/-- The greater magnitude is the higher rung. -/
theorem mag_lt (m n : Nat) (i j : Int) (h1 : m < 16777216) (h2 : -149 ≤ i) (h5 : n < 16777216) (h6 : -149 ≤ j) (h8 : -149 < j → 8388608 ≤ n) (c : i < j) :
    m * 2 ^ (i - min i j).toNat < n * 2 ^ (j - min i j).toNat ∧ (i + 149) * 8388608 + m < (j + 149) * 8388608 + n := by
  have hn := h8 (by omega)
  rw [show (i - min i j).toNat = 0 by omega, Nat.pow_zero, Nat.mul_one]
  obtain ⟨d, hd⟩ : ∃ d, (j - min i j).toNat = d + 1 := ⟨(j - min i j).toNat - 1, by omega⟩
  rw [hd, Nat.pow_succ, Nat.mul_comm (2 ^ d), ← Nat.mul_assoc]
  have : n * 2 ≤ n * 2 * 2 ^ d := Nat.le_mul_of_pos_right _ (Nat.two_pow_pos _)
  exact ⟨by omega, by omega⟩
theorem mag_iff (m n : Nat) (i j : Int) (h1 : m < 16777216) (h2 : -149 ≤ i) (h4 : -149 < i → 8388608 ≤ m) (h5 : n < 16777216) (h6 : -149 ≤ j) (h8 : -149 < j → 8388608 ≤ n) :
    m * 2 ^ (i - min i j).toNat < n * 2 ^ (j - min i j).toNat ↔ (i + 149) * 8388608 + m < (j + 149) * 8388608 + n := by
  rcases Int.lt_trichotomy i j with c | c | c
  · have := mag_lt m n i j h1 h2 h5 h6 h8 c
    exact ⟨fun _ => this.2, fun _ => this.1⟩
  · subst c
    rw [show (i - min i i).toNat = 0 by omega, Nat.pow_zero, Nat.mul_one, Nat.mul_one]
    omega
  · have := mag_lt n m j i h5 h6 h1 h2 h4 c
    rw [Int.min_comm j i] at this
    constructor
    · intro h; omega
    · intro h; omega
theorem signed_eq (n : Bool) (m up : Nat) : Ieee.signed n m up = sgnd n ((m * 2 ^ up : Nat) : Int) := by
  unfold Ieee.signed sgnd
  rw [Nat.shiftLeft_eq]
def lawV (a b : Int) : Bool := lessV a b
theorem lawS (a b : Int) (w : World) : Calls Try.prog 17 #[.int .i64 a, .int .i64 b] w fun e w' => e = .returned (.bool (lawV a b)) ∧ Below w.heap.size w w' := by
  have hl : lawV a b = ((Ieee.single.read (sgl a)).order (Ieee.single.read (sgl b)) == some .lt) := rfl
  cases opened a with
  | nan n1 h hr hf =>
    obtain ⟨s, t, hr⟩ := hr
    have hv : lawV a b = false := by rw [hl, hr]; rfl
    rw [hv]; exact less_nan a b n1 (open_calls hf) w
  | inf n1 ha hs hr hf =>
    cases opened b with
    | nan n2 h2 hr2 hf2 =>
      obtain ⟨s, t, hr2⟩ := hr2
      have hv : lawV a b = false := by rw [hl, hr, hr2]; rfl
      rw [hv]; exact nan_less a b n1 n2 1 0 0 rfl (open_calls hf) (open_calls hf2) w
    | inf n2 ha2 hs2 hr2 hf2 =>
      have hv : lawV a b = decide (rank a < rank b) := by
        rw [hl, hr, hr2, rank_eq a n1 2139095040 (by decide) (by decide) (by rw [ha]; omega), rank_eq b n2 2139095040 (by decide) (by decide) (by rw [ha2]; omega)]
        cases n1 <;> cases n2 <;> decide
      rw [hv]; exact less_less a b n1 n2 1 0 0 1 0 0 rfl rfl (open_calls hf) (open_calls hf2) w
    | num n2 m2 e2 h1 h2 h3 h4 ha2 hs2 hr2 hf2 =>
      have hv : lawV a b = decide (rank a < rank b) := by
        rw [hl, hr, hr2, rank_eq a n1 2139095040 (by decide) (by decide) (by rw [ha]; omega), rank_eq b n2 ((e2 + 149) * 8388608 + m2) (by omega) (by omega) (by rw [ha2]; omega)]
        show (some (if n1 then Ordering.lt else .gt) == some .lt) = _
        unfold sgnd
        cases n1 <;> cases n2
        · rw [if_neg (by decide), if_neg (by decide), if_neg (by decide), decide_eq_false (by omega)]; rfl
        · rw [if_neg (by decide), if_neg (by decide), if_pos rfl, decide_eq_false (by omega)]; rfl
        · rw [if_pos rfl, if_pos rfl, if_neg (by decide), decide_eq_true (by omega)]; rfl
        · rw [if_pos rfl, if_pos rfl, if_pos rfl, decide_eq_true (by omega)]; rfl
      rw [hv]; exact less_less a b n1 n2 1 0 0 0 m2 e2 rfl rfl (open_calls hf) (open_calls hf2) w
  | num n1 m1 e1 g1 g2 g3 g4 ha hs hr hf =>
    cases opened b with
    | nan n2 h2 hr2 hf2 =>
      obtain ⟨s, t, hr2⟩ := hr2
      have hv : lawV a b = false := by rw [hl, hr, hr2]; rfl
      rw [hv]; exact nan_less a b n1 n2 0 m1 e1 rfl (open_calls hf) (open_calls hf2) w
    | inf n2 ha2 hs2 hr2 hf2 =>
      have hv : lawV a b = decide (rank a < rank b) := by
        rw [hl, hr, hr2, rank_eq b n2 2139095040 (by decide) (by decide) (by rw [ha2]; omega), rank_eq a n1 ((e1 + 149) * 8388608 + m1) (by omega) (by omega) (by rw [ha]; omega)]
        show (some (if n2 then Ordering.gt else .lt) == some .lt) = _
        unfold sgnd
        cases n1 <;> cases n2
        · rw [if_neg (by decide), if_neg (by decide), if_neg (by decide), decide_eq_true (by omega)]; rfl
        · rw [if_pos rfl, if_neg (by decide), if_pos rfl, decide_eq_false (by omega)]; rfl
        · rw [if_neg (by decide), if_pos rfl, if_neg (by decide), decide_eq_true (by omega)]; rfl
        · rw [if_pos rfl, if_pos rfl, if_pos rfl, decide_eq_false (by omega)]; rfl
      rw [hv]; exact less_less a b n1 n2 0 m1 e1 1 0 0 rfl rfl (open_calls hf) (open_calls hf2) w
    | num n2 m2 e2 h1 h2 h3 h4 ha2 hs2 hr2 hf2 =>
      have hv : lawV a b = decide (rank a < rank b) := by
        rw [hl, hr, hr2, rank_eq a n1 ((e1 + 149) * 8388608 + m1) (by omega) (by omega) (by rw [ha]; omega), rank_eq b n2 ((e2 + 149) * 8388608 + m2) (by omega) (by omega) (by rw [ha2]; omega)]
        show (some (compare (Ieee.signed n1 m1 (e1 - min e1 e2).toNat) (Ieee.signed n2 m2 (e2 - min e1 e2).toNat)) == some .lt) = _
        rw [lt_some, signed_eq, signed_eq]
        have i1 := mag_iff m1 m2 e1 e2 g1 g2 g4 h1 h2 h4
        have i2 := mag_iff m2 m1 e2 e1 h1 h2 h4 g1 g2 g4
        rw [Int.min_comm e2 e1] at i2
        have z1 : m1 * 2 ^ (e1 - min e1 e2).toNat = 0 ↔ m1 = 0 := by
          constructor
          · intro h
            rcases Nat.mul_eq_zero.1 h with c | c
            · exact c
            · have := Nat.two_pow_pos (e1 - min e1 e2).toNat; omega
          · intro h; rw [h, Nat.zero_mul]
        have z2 : m2 * 2 ^ (e2 - min e1 e2).toNat = 0 ↔ m2 = 0 := by
          constructor
          · intro h
            rcases Nat.mul_eq_zero.1 h with c | c
            · exact c
            · have := Nat.two_pow_pos (e2 - min e1 e2).toNat; omega
          · intro h; rw [h, Nat.zero_mul]
        generalize m1 * 2 ^ (e1 - min e1 e2).toNat = X at *
        generalize m2 * 2 ^ (e2 - min e1 e2).toNat = Y at *
        unfold sgnd
        have key : ∀ p q : Prop, ∀ [Decidable p] [Decidable q], (p ↔ q) → decide p = decide q := fun p q _ _ h => by simp [h]
        cases n1 <;> cases n2
        · rw [if_neg (by decide), if_neg (by decide), if_neg (by decide), if_neg (by decide)]; apply key; omega
        · rw [if_neg (by decide), if_pos rfl, if_neg (by decide), if_pos rfl]; apply key; omega
        · rw [if_pos rfl, if_neg (by decide), if_pos rfl, if_neg (by decide)]; apply key; omega
        · rw [if_pos rfl, if_pos rfl, if_pos rfl, if_pos rfl]; apply key; omega
      rw [hv]; exact less_less a b n1 n2 0 m1 e1 0 m2 e2 rfl rfl (open_calls hf) (open_calls hf2) w
theorem lawI (a b : Int) (w : World) : Calls Try.prog 18 #[.int .i64 a, .int .i64 b] w fun e w' => e = .returned (.bool (lawV a b)) ∧ Below w.heap.size w w' := less_calls a b w
set_option maxRecDepth 100000 in
set_option maxHeartbeats 4000000 in
theorem laws_FnExactFLess.calls (a0 : Int) (a1 : Int) (r : Bool) (w : World) (h : r = true) :
    Calls Try.prog 6 #[.int .i64 a0, .int .i64 a1] w fun e w' => e = .returned (.bool r) ∧ Below w.heap.size w w' := by
  subst h
  have hS := lawS a0 a1
  have hI := lawI a0 a1
  generalize lawV a0 a1 = v at hS hI
  go_enter Try.func6, Try.ntmps6
  go_wp2_with fail
  refine (hS _).mono ?_
  rintro e w1 ⟨rfl, b1⟩
  go_wp2_with fail
  refine (hI _).mono ?_
  rintro e w2 ⟨rfl, b2⟩
  go_wp2_with fail
  go_ret
  exact ⟨rfl, below_step b1 b2⟩
end Go.Proofs.Ytconefdllomgbaa.PFnExactFLess
namespace Go.Proofs.Ytconefdllomgbaa.Pure
set_option linter.unusedVariables false in
theorem FnExactFLess (a0 a1 : Int) (w0 : (Lit.int .i64 a0).wf = true) (w1 : (Lit.int .i64 a1).wf = true) : true = true := rfl
end Go.Proofs.Ytconefdllomgbaa.Pure
