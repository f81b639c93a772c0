/- laws.FnExactFToInt, walked: a float made whole. No condition. -/
import Derived.Test.YtconefdllomgbaaFSpec
import Derived.Test.YtconefdllomgbaaFDouble
import Derived.Test.YtconefdllomgbaaPFnExactFToIntx1
import Derived.WalkKit
import Derived.WalkLawsBesides
import Derived.Laws.Externs
import Derived.Laws.Cover2
import Derived.Laws.FloatArith
namespace Go.Proofs.Ytconefdllomgbaa.PFnExactFToInt
open Go.RowKit Go.Proofs.Ytconefdllomgbaa.Aid Go.Proofs.Ytconefdllomgbaa.FPlain Go.Proofs.Ytconefdllomgbaa.FWalk Go.Proofs.Ytconefdllomgbaa.FOpen Go.Proofs.Ytconefdllomgbaa.FDouble Go.Proofs.YtconefdllomgbaaW.PrintWords Go.Proofs.YtconefdllomgbaaW.PrintLast Go.Proofs.YtconefdllomgbaaW.PrintMore
set_option linter.unusedVariables false
set_option linter.unusedSimpArgs false
theorem pow_bd {j : Nat} (h : j ≤ 62) : 1 ≤ (2 : Int) ^ j ∧ (2 : Int) ^ j ≤ 4611686018427387904 := by
  have h1 : (0 : Int) < 2 ^ j := Int.pow_pos (by decide)
  have h2 := Nat.pow_le_pow_right (show 0 < 2 by decide) h
  have h3 : ((2 ^ j : Nat) : Int) ≤ ((2 ^ 62 : Nat) : Int) := by exact_mod_cast h2
  rw [Int.natCast_pow] at h3
  have h4 : (((2 ^ 62 : Nat)) : Int) = 4611686018427387904 := by decide
  rw [h4] at h3
  exact ⟨by omega, h3⟩
theorem pow_split (j : Nat) (h : j ≤ 62) : (2 : Int) ^ (63 - j) * 2 ^ j = 9223372036854775808 := by
  rw [← Int.pow_add, show 63 - j + j = 63 by omega]; decide
theorem shl_one (n : Int) (h0 : 0 ≤ n) (h : n ≤ 62) : shl .i64 1 n = 2 ^ n.toNat := by
  unfold shl
  have : min n.toNat IntKind.i64.bits = n.toNat := Nat.min_eq_left (by show n.toNat ≤ 64; omega)
  have b := pow_bd (j := n.toNat) (by omega)
  rw [this, Int.one_mul, i64_wrap_id _ (by omega) (by omega)]
theorem shr_i64 (x n : Int) (h0 : 0 ≤ n) (h : n ≤ 62) : shr .i64 x n = x / 2 ^ n.toNat := by
  unfold shr
  have : min n.toNat IntKind.i64.bits = n.toNat := Nat.min_eq_left (by show n.toNat ≤ 64; omega)
  rw [this]
theorem cnat (a : Nat) (h : a < 9223372036854775808) : wrap64 (a : Int) = (a : Int) := wid (by omega) (by omega)
theorem half_cast (m : Nat) : (m : Int) / 2 = ((m / 2 : Nat) : Int) := by omega
theorem and1_cast (m : Nat) : Go.bits .and .i64 (m : Int) 1 = ((m % 2 : Nat) : Int) := by rw [and_one]; omega
theorem sHalf_loop (kk : Nat) (hkk : kk ≤ 62) : ∀ (j i m : Nat) (more : Bool) (k : Nat), 1 ≤ i → i + j = kk → m < 4611686018427387904 → j < k → spec_l2Half.l0 k (m : Int) (kk : Int) more (i : Int) = some ((rneS m (2 ^ (j + 1)) more : Nat) : Int) := by
  intro j
  induction j with
  | zero =>
    intro i m more k hi h hm hk
    obtain ⟨k, rfl⟩ : ∃ q, k = q + 1 := ⟨k - 1, by omega⟩
    simp only [spec_l2Half.l0]
    rw [if_neg (by omega), if_neg (by omega), and1_cast, half_cast, and1_cast]
    unfold rneS
    have e2 : 2 ^ (0 + 1) = 2 := rfl
    rw [e2, wid (by omega) (by omega)]
    by_cases b : m % 2 = 1
    · rw [if_pos (by omega)]
      cases more
      · rw [if_neg (by decide)]
        by_cases c : m / 2 % 2 = 1
        · rw [if_pos (by omega), if_pos (.inr ⟨by omega, .inr c⟩)]; rfl
        · rw [if_neg (by omega), if_neg (by simp; omega)]
      · rw [if_pos rfl, if_pos (.inr ⟨by omega, .inl rfl⟩)]; rfl
    · rw [if_neg (by omega), if_neg (by omega)]
  | succ j ih =>
    intro i m more k hi h hm hk
    obtain ⟨k, rfl⟩ : ∃ q, k = q + 1 := ⟨k - 1, by omega⟩
    simp only [spec_l2Half.l0]
    rw [if_pos (by omega), and1_cast, half_cast, Loop.wsucc i (by omega), rneS_half]
    cases more
    · rw [if_neg (by decide), Bool.false_or]
      have : (((m % 2 : Nat) : Int) == 1) = (m % 2 == 1) := by rw [Bool.eq_iff_iff, beq_iff_eq, beq_iff_eq]; omega
      rw [this]
      exact ih (i + 1) (m / 2) _ k (by omega) (by omega) (by omega) (by omega)
    · rw [if_pos rfl, Bool.true_or]
      exact ih (i + 1) (m / 2) _ k (by omega) (by omega) (by omega) (by omega)
theorem sHalf (m : Nat) (kk : Int) (more : Bool) (hm : m < 4611686018427387904) (k : Nat) (hk : 70 < k) : spec_l2Half.f k (m : Int) kk more = some ((rneS m (2 ^ kk.toNat) more : Nat) : Int) := by
  unfold spec_l2Half.f
  by_cases c : kk > 62
  · rw [if_pos c]
    have h1 : 2 ^ 63 ≤ 2 ^ kk.toNat := Nat.pow_le_pow_right (by decide) (by omega)
    have h2 : (2 : Nat) ^ 63 = 9223372036854775808 := by decide
    rw [rneS_small _ _ _ (by omega)]; rfl
  · rw [if_neg c]
    by_cases c0 : kk ≤ 0
    · obtain ⟨k, rfl⟩ : ∃ q, k = q + 1 := ⟨k - 1, by omega⟩
      simp only [spec_l2Half.l0]
      rw [if_neg (by omega), if_pos c0]
      have : kk.toNat = 0 := by omega
      rw [this, Nat.pow_zero, rneS_one]
    · have e : kk = ((kk.toNat : Nat) : Int) := by omega
      rw [e]
      have := sHalf_loop kk.toNat (by omega) (kk.toNat - 1) 1 m more k (by omega) (by omega) hm (by omega)
      rw [show kk.toNat - 1 + 1 = kk.toNat by omega] at this
      rw [Int.toNat_natCast]; exact this
theorem open_same (a : Int) (k : Nat) : spec_l2Open.f (k + 2) a = PFnExactFMul.spec_l2Open.f 2 a := by
  unfold spec_l2Open.f PFnExactFMul.spec_l2Open.f
  simp only [spec_l2Open.j0, spec_l2Open.j1, PFnExactFMul.spec_l2Open.j0, PFnExactFMul.spec_l2Open.j1]
/-- The nearest whole number to m * 2 ^ e. -/
def toR (m : Nat) (e : Int) : Nat := if e < 0 then rneS m (2 ^ (-e).toNat) false else m * 2 ^ e.toNat
def toV : Ieee.Datum → Int
  | .nan _ _ => 0
  | .infinity n => sgnd n 4611686018427387904
  | .number n m e => sgnd n (min (toR m e : Nat) 4611686018427387904)
def lawV (a : Int) : Int := toV (Ieee.single.read (sgl a))
theorem spec_eq (a : Int) : spec_FToInt.f 80 a = some (lawV a) := by
  unfold spec_FToInt.f lawV
  rw [open_same a 78]
  cases opened a with
  | nan n h hr hf => obtain ⟨s, t, hr⟩ := hr; rw [hf, hr]; rfl
  | inf n ha hs hr hf => rw [hf, hr]; cases n <;> rfl
  | num n m e h1 h2 h3 h4 ha hs hr hf =>
    rw [hf, hr]
    simp only [Option.bind_some]
    have fin : ∀ (R : Nat), R < 9223372036854775808 → spec_FToInt.j0 80 (R : Int) 0 n (m : Int) e = some (sgnd n (min (R : Int) 4611686018427387904)) := by
      intro R hR
      simp only [spec_FToInt.j0]
      unfold sgnd
      cases n
      · by_cases c : (R : Int) > 4611686018427387904
        · rw [if_pos c, if_neg (by decide), if_neg (by decide)]; congr 1; omega
        · rw [if_neg c, if_neg (by decide), if_neg (by decide)]; congr 1; omega
      · by_cases c : (R : Int) > 4611686018427387904
        · rw [if_pos c, if_pos rfl, if_pos rfl]; congr 1; omega
        · rw [if_neg c, if_pos rfl, if_pos rfl, wid (by omega) (by omega)]; congr 1; omega
    rw [if_neg (by decide), if_pos trivial]
    show _ = some (sgnd n (min (toR m e : Nat) 4611686018427387904))
    unfold toR
    by_cases c : e < 0
    · rw [if_pos c, if_pos c, wid (x := -e) (by omega) (by omega), sHalf m (-e) false (by omega) 80 (by decide)]
      simp only [Option.bind_some]
      refine fin _ ?_
      have : rneS m (2 ^ (-e).toNat) false ≤ m + 1 := by
        have : m / 2 ^ (-e).toNat ≤ m := Nat.div_le_self _ _
        unfold rneS; split <;> omega
      omega
    · rw [if_neg c, if_neg c]
      by_cases d : e < 39
      · rw [if_pos d, u64_wrap_id e (by omega) (by omega), if_pos (by omega)]
        have hb : m * 2 ^ e.toNat < 9223372036854775808 := by
          have h5 : 2 ^ e.toNat ≤ 2 ^ 38 := Nat.pow_le_pow_right (by decide) (by omega)
          have e38 : (2 : Nat) ^ 38 = 274877906944 := by decide
          rw [e38] at h5
          have h6 := Nat.mul_le_mul (show m ≤ 16777215 by omega) h5
          omega
        have hs : shl .i64 (m : Int) e = ((m * 2 ^ e.toNat : Nat) : Int) := by
          unfold shl
          rw [show min e.toNat IntKind.i64.bits = e.toNat by have : IntKind.i64.bits = 64 := rfl
                                                             omega]
          have : ((m * 2 ^ e.toNat : Nat) : Int) = (m : Int) * 2 ^ e.toNat := by rw [Int.natCast_mul, Int.natCast_pow]; rfl
          rw [← this]
          exact i64_wrap_id _ (by omega) (by omega)
        rw [hs]
        exact fin _ hb
      · rw [if_neg d]
        have := fin 4611686018427387904 (by decide)
        have h5 : 4611686018427387904 ≤ m * 2 ^ e.toNat := by
          have h5 : 2 ^ 39 ≤ 2 ^ e.toNat := Nat.pow_le_pow_right (by decide) (by omega)
          have e39 : (2 : Nat) ^ 39 = 549755813888 := by decide
          rw [e39] at h5
          have h6 := Nat.mul_le_mul (h4 (by omega)) h5
          omega
        rw [show min ((m * 2 ^ e.toNat : Nat) : Int) 4611686018427387904 = 4611686018427387904 by omega]
        refine this.trans ?_
        congr 2
theorem lawS (a : Int) (hw : (Lit.int .i64 a).wf = true) (w : World) : Calls Try.prog 23 #[.int .i64 a] w fun e w' => e = .returned (.int .i64 (lawV a)) ∧ Below w.heap.size w w' :=
  spec_FToInt.calls 80 a _ w (spec_eq a)
theorem cmp_eq (x y : Int) : compare x y = (if x < y then .lt else if x = y then .eq else .gt) := rfl
theorem ge_some (x y : Int) : (some (compare x y) == some Ordering.gt || some (compare x y) == some Ordering.eq) = decide (y ≤ x) := by
  rw [cmp_eq]
  by_cases c : x < y
  · rw [if_pos c, decide_eq_false (by omega)]; rfl
  · rw [if_neg c, decide_eq_true (by omega)]
    by_cases d : x = y
    · rw [if_pos d]; rfl
    · rw [if_neg d]; rfl
theorem le_some (x y : Int) : (some (compare x y) == some Ordering.lt || some (compare x y) == some Ordering.eq) = decide (x ≤ y) := by
  rw [cmp_eq]
  by_cases c : x < y
  · rw [if_pos c, decide_eq_true (by omega)]; rfl
  · rw [if_neg c]
    by_cases d : x = y
    · rw [if_pos d, decide_eq_true (by omega)]; rfl
    · rw [if_neg d, decide_eq_false (by omega)]; rfl
theorem signed_eq (n : Bool) (m up : Nat) : Ieee.signed n m up = sgnd n ((m * 2 ^ up : Nat) : Int) := by
  unfold Ieee.signed sgnd
  rw [Nat.shiftLeft_eq]
def C1 : Nat := 4886405595696988160
def C2 : Nat := 14109777632551763968
theorem read_C1 : Ieee.double.read 4886405595696988160 = .number false 4503599627370496 10 := by rw [dread_eq]; rfl
theorem read_C2 : Ieee.double.read 14109777632551763968 = .number true 4503599627370496 10 := by rw [dread_eq]; rfl
/-- Against 2 ^ 62. -/
theorem mag_62 (M : Nat) (E : Int) (h1 : M < 9007199254740992) (h2 : 10 ≤ E → 4503599627370496 ≤ M) :
    (10 ≤ E → 4503599627370496 * 2 ^ (10 - min E 10).toNat ≤ M * 2 ^ (E - min E 10).toNat) ∧ (¬ 10 ≤ E → M * 2 ^ (E - min E 10).toNat < 4503599627370496 * 2 ^ (10 - min E 10).toNat) := by
  refine ⟨fun h => ?_, fun h => ?_⟩
  · rw [show (10 - min E 10).toNat = 0 by omega, Nat.pow_zero, Nat.mul_one]
    have := h2 h
    have g : M ≤ M * 2 ^ (E - min E 10).toNat := Nat.le_mul_of_pos_right _ (Nat.two_pow_pos _)
    omega
  · rw [show (E - min E 10).toNat = 0 by omega, Nat.pow_zero, Nat.mul_one]
    obtain ⟨d, hd⟩ : ∃ d, (10 - min E 10).toNat = d + 1 := ⟨(10 - min E 10).toNat - 1, by omega⟩
    rw [hd, Nat.pow_succ, Nat.mul_comm (2 ^ d), ← Nat.mul_assoc]
    have g : 9007199254740992 ≤ 4503599627370496 * 2 * 2 ^ d := Nat.le_mul_of_pos_right _ (Nat.two_pow_pos _)
    omega
theorem ge_62 (b : Nat) (n : Bool) (M : Nat) (E : Int) (hr : Ieee.double.read b = .number n M E) (h1 : M < 9007199254740992) (h2 : 10 ≤ E → 4503599627370496 ≤ M) :
    (FloatKind.f64.format.order b 4886405595696988160 == some .gt || FloatKind.f64.format.order b 4886405595696988160 == some .eq) = (!n && decide (10 ≤ E)) := by
  have ho : FloatKind.f64.format.order b 4886405595696988160 = some (compare (Ieee.signed n M (E - min E 10).toNat) (Ieee.signed false 4503599627370496 (10 - min E 10).toNat)) := by
    show (Ieee.double.read b).order (Ieee.double.read 4886405595696988160) = _
    rw [hr, read_C1]; rfl
  rw [ho, ge_some, signed_eq, signed_eq]
  obtain ⟨g1, g2⟩ := mag_62 M E h1 h2
  have hY : 0 < 4503599627370496 * 2 ^ (10 - min E 10).toNat := Nat.mul_pos (by decide) (Nat.two_pow_pos _)
  generalize M * 2 ^ (E - min E 10).toNat = X at *
  generalize 4503599627370496 * 2 ^ (10 - min E 10).toNat = Y at *
  unfold sgnd
  rw [if_neg (by decide : ¬ (false = true))]
  by_cases c : 10 ≤ E
  · have := g1 c
    cases n
    · rw [if_neg (by decide), decide_eq_true c, decide_eq_true (by omega)]; rfl
    · rw [if_pos rfl, decide_eq_true c, decide_eq_false (by omega)]; rfl
  · have := g2 c
    cases n
    · rw [if_neg (by decide), decide_eq_false c, decide_eq_false (by omega)]; rfl
    · rw [if_pos rfl, decide_eq_false c, decide_eq_false (by omega)]; rfl
theorem le_62 (b : Nat) (n : Bool) (M : Nat) (E : Int) (hr : Ieee.double.read b = .number n M E) (h1 : M < 9007199254740992) (h2 : 10 ≤ E → 4503599627370496 ≤ M) :
    (FloatKind.f64.format.order b 14109777632551763968 == some .lt || FloatKind.f64.format.order b 14109777632551763968 == some .eq) = (n && decide (10 ≤ E)) := by
  have ho : FloatKind.f64.format.order b 14109777632551763968 = some (compare (Ieee.signed n M (E - min E 10).toNat) (Ieee.signed true 4503599627370496 (10 - min E 10).toNat)) := by
    show (Ieee.double.read b).order (Ieee.double.read 14109777632551763968) = _
    rw [hr, read_C2]; rfl
  rw [ho, le_some, signed_eq, signed_eq]
  obtain ⟨g1, g2⟩ := mag_62 M E h1 h2
  have hY : 0 < 4503599627370496 * 2 ^ (10 - min E 10).toNat := Nat.mul_pos (by decide) (Nat.two_pow_pos _)
  generalize M * 2 ^ (E - min E 10).toNat = X at *
  generalize 4503599627370496 * 2 ^ (10 - min E 10).toNat = Y at *
  unfold sgnd
  rw [if_pos (rfl : (true = true))]
  by_cases c : 10 ≤ E
  · have := g1 c
    cases n
    · rw [if_neg (by decide), decide_eq_true c, decide_eq_false (by omega)]; rfl
    · rw [if_pos rfl, decide_eq_true c, decide_eq_true (by omega)]; rfl
  · have := g2 c
    cases n
    · rw [if_neg (by decide), decide_eq_false c, decide_eq_false (by omega)]; rfl
    · rw [if_pos rfl, decide_eq_false c, decide_eq_false (by omega)]; rfl
theorem order_self64 (b : Nat) (d : Ieee.Datum) (hr : Ieee.double.read b = d) : (FloatKind.f64.format.order b b != some .eq) = d.isNaN := by
  show ((Ieee.double.read b).order (Ieee.double.read b) != some .eq) = _
  rw [hr]
  cases d with
  | nan s t => rfl
  | infinity s => simp [Ieee.Datum.order, Ieee.Datum.isNaN]
  | number s m e => simp [Ieee.Datum.order, Ieee.Datum.isNaN]
/-- The whole number that the program rounds to is the statements'. -/
theorem round_eq (m : Nat) (e : Int) (hm : m ≠ 0) (h24 : bl m ≤ 24) (n : Bool) (he : e + bl m - 53 < 10) :
    ∃ p q : Nat, bl p ≤ 53 ∧ q ≤ 9 ∧ toR m e = p * 2 ^ q ∧ (Ieee.Datum.number n (m * 2 ^ (53 - bl m)) (e + bl m - 53)).integral .even = .number n (p * 2 ^ q) 0 := by
  have hp := bl_pos m hm
  have hupp := Nat.mul_lt_mul_of_pos_right (bl_lt m) (Nat.two_pow_pos (53 - bl m))
  rw [← Nat.pow_add, show bl m + (53 - bl m) = 53 by omega] at hupp
  have hi : (Ieee.Datum.number n (m * 2 ^ (53 - bl m)) (e + bl m - 53)).integral .even = .number n (rneS (m * 2 ^ (53 - bl m) * 2 ^ (e + bl m - 53).toNat) (2 ^ (-(e + bl m - 53)).toNat) false) 0 := by
    show Ieee.Datum.number n (Ieee.Toward.even.cut n ((m * 2 ^ (53 - bl m)) <<< (e + bl m - 53).toNat) (-(e + bl m - 53)).toNat) 0 = _
    rw [cut_eq, Nat.shiftLeft_eq]
  rw [hi]
  by_cases c : 0 ≤ e + bl m - 53
  · refine ⟨m * 2 ^ (53 - bl m), (e + bl m - 53).toNat, bl_le_of hupp, by omega, ?_, ?_⟩
    · unfold toR
      rw [if_neg (by omega), Nat.mul_assoc, ← Nat.pow_add, show 53 - bl m + (e + bl m - 53).toNat = e.toNat by omega]
    · rw [show (-(e + bl m - 53)).toNat = 0 by omega, Nat.pow_zero, rneS_one]
  · have hR : toR m e = rneS (m * 2 ^ (53 - bl m)) (2 ^ (-(e + bl m - 53)).toNat) false := by
      unfold toR
      by_cases d : e < 0
      · rw [if_pos d]
        have := rneS_mul m (2 ^ (-e).toNat) (2 ^ (53 - bl m)) (Nat.two_pow_pos _) (Nat.two_pow_pos _) false rfl
        rw [← Nat.pow_add, show (-e).toNat + (53 - bl m) = (-(e + bl m - 53)).toNat by omega] at this
        exact this.symm
      · rw [if_neg d]
        have := rneS_mul (m * 2 ^ e.toNat) 1 (2 ^ (-(e + bl m - 53)).toNat) (Nat.two_pow_pos _) (by decide) false rfl
        rw [Nat.one_mul, rneS_one, Nat.mul_assoc, ← Nat.pow_add, show e.toNat + (-(e + bl m - 53)).toNat = 53 - bl m by omega] at this
        exact this.symm
    refine ⟨toR m e, 0, ?_, by omega, by rw [Nat.pow_zero, Nat.mul_one], ?_⟩
    · rw [hR]
      obtain ⟨d, hd⟩ : ∃ d, (-(e + bl m - 53)).toNat = d + 1 := ⟨(-(e + bl m - 53)).toNat - 1, by omega⟩
      rw [hd]
      have e53 : (2 : Nat) ^ 53 = 9007199254740992 := by decide
      rw [e53] at hupp
      have h2 : (2 : Nat) ≤ 2 ^ (d + 1) := by
        have := Nat.two_pow_pos d
        rw [Nat.pow_succ]; omega
      have h3 : m * 2 ^ (53 - bl m) / 2 ^ (d + 1) ≤ m * 2 ^ (53 - bl m) / 2 := Nat.div_le_div_left h2 (by decide)
      have h4 : rneS (m * 2 ^ (53 - bl m)) (2 ^ (d + 1)) false ≤ m * 2 ^ (53 - bl m) / 2 + 1 := by
        unfold rneS; split <;> omega
      exact bl_le_of (j := 53) (by rw [e53]; omega)
    · rw [hR, Nat.pow_zero, Nat.mul_one, show (e + bl m - 53).toNat = 0 by omega, Nat.pow_zero, Nat.mul_one]
theorem run_round (b : Nat) (n : Bool) (m : Nat) (e : Int) (hr : Ieee.double.read b = .number n m e) (W : World) :
    (callFunc 35 #[.float .f64 b]).run Try.prog W = .ok (.value (.float .f64 (Ieee.double.write ((Ieee.Datum.number n m e).integral .even)))) W := by
  rw [run_callFunc_extern Try.func35 (by kernel_rfl) (by kernel_rfl) (by kernel_rfl) (e := Extern.MathFloor.toIntegral "math.RoundToEven" .even) (by kernel_rfl)]
  have hd : FloatKind.f64.decode b = .number n m e := hr
  have h : Extern.MathFloor.toIntegral "math.RoundToEven" .even #[.float .f64 b] = pure (.float .f64 (FloatKind.f64.encode ((Ieee.Datum.number n m e).integral .even))) := by
    unfold Extern.MathFloor.toIntegral
    generalize FloatKind.decode FloatKind.f64 = dec at hd ⊢
    conv => lhs; whnf
    rw [hd]
  rw [h]
  rfl
theorem run_conv (a : Int) (n : Bool) (m : Nat) (e : Int) (hr : Ieee.single.read (sgl a) = .number n m e) (n' : Bool) (m' : Nat) (e' : Int) (hd : Ieee.double.read (Ieee.double.write (.number n m e)) = .number n' m' e') (W : World) :
    (convert 36 39 (.float .f32 (sgl a))).run Try.prog W = .ok (.float .f64 (Ieee.double.write (.number n m e))) W := by
  refine run_convert_float_float (P := Try.prog) W 36 39 .f32 .f64 _ _ (by kernel_rfl) (by kernel_rfl) ?_
  have hr' : FloatKind.f32.decode (sgl a) = .number n m e := hr
  have hd' : FloatKind.f64.decode (FloatKind.f64.encode (.number n m e)) = .number n' m' e' := hd
  unfold floatToFloatBits
  rw [if_neg (by decide), hr']
  simp only [hd']
  rfl
theorem run_conv_inf (a : Int) (n : Bool) (hr : Ieee.single.read (sgl a) = .infinity n) (W : World) :
    (convert 36 39 (.float .f32 (sgl a))).run Try.prog W = .ok (.float .f64 (Ieee.double.write (.infinity n))) W := by
  refine run_convert_float_float (P := Try.prog) W 36 39 .f32 .f64 _ _ (by kernel_rfl) (by kernel_rfl) ?_
  have hr' : FloatKind.f32.decode (sgl a) = .infinity n := hr
  unfold floatToFloatBits
  rw [if_neg (by decide), hr']
  rfl
def nanC (b : Nat) (W : World) : Nat := (Question.nanConv .f64 b).cut (W.tape W.drawn (Question.nanConv .f64 b))
theorem nanC_nan (b : Nat) (W : World) : ∃ s t, Ieee.double.read (nanC b W) = .nan s t := by
  unfold nanC
  generalize W.tape W.drawn (Question.nanConv .f64 b) = t
  have e : (Question.nanConv .f64 b).cut t = (t % 2) * 9223372036854775808 + 9218868437227405312 + 1 + (t / 2) % 4503599627370495 := rfl
  rw [e, dread_eq]
  generalize hq : (t / 2) % 4503599627370495 = q
  have hq' : q < 4503599627370495 := by omega
  have hm : (t % 2 * 9223372036854775808 + 9218868437227405312 + 1 + q) % 9223372036854775808 = 9218868437227405313 + q := by omega
  rw [hm, if_neg (by omega), if_neg (by omega), if_neg (by omega)]
  exact ⟨_, _, rfl⟩
theorem run_conv_nan (a : Int) (s : Bool) (t : Nat) (hr : Ieee.single.read (sgl a) = .nan s t) (W : World) :
    (convert 36 39 (.float .f32 (sgl a))).run Try.prog W = .ok (.float .f64 (nanC (sgl a) W)) W.drew := by
  have hr' : FloatKind.f32.decode (sgl a) = .nan s t := hr
  simp [convert, run_underlying Try.underlying36, run_underlying Try.underlying39, Conv.floatToFloat, hr', Question.forced, nanC]
set_option maxHeartbeats 400000 in
theorem to_nan (a : Int) (s : Bool) (t : Nat) (hr : Ieee.single.read (sgl a) = .nan s t) (w : World) : Calls Try.prog 24 #[.int .i64 a] w fun e w' => e = .returned (.int .i64 0) ∧ Below w.heap.size w w' := by
  have hc := run_conv_nan a s t hr
  obtain ⟨s', t', hr2⟩ := nanC_nan (sgl a) w
  have hn := order_self64 _ _ hr2
  have hn' : (FloatKind.f64.format.order (nanC (sgl a) w) (nanC (sgl a) w) != some .eq) = true := hn
  clear hr2 hn hr
  go_enter Try.func24, Try.ntmps24
  go_wp2_with fail
  refine (single_calls a _).mono ?_
  rintro e w' ⟨rfl, rfl⟩
  go_wp2_with fail
  go_ret
  exact ⟨rfl, FWalk.below_drew _⟩
set_option maxHeartbeats 400000 in
theorem to_ge (a : Int) (b : Nat) (hc : ∀ W, (convert 36 39 (.float .f32 (sgl a))).run Try.prog W = .ok (.float .f64 b) W)
    (h1 : (FloatKind.f64.format.order b b != some .eq) = false) (h2 : (FloatKind.f64.format.order b 4886405595696988160 == some .gt || FloatKind.f64.format.order b 4886405595696988160 == some .eq) = true) (w : World) :
    Calls Try.prog 24 #[.int .i64 a] w fun e w' => e = .returned (.int .i64 4611686018427387904) ∧ Below w.heap.size w w' := by
  go_enter Try.func24, Try.ntmps24
  go_wp2_with fail
  refine (single_calls a _).mono ?_
  rintro e w' ⟨rfl, rfl⟩
  go_wp2_with fail
  go_ret
  exact ⟨rfl, Below.refl _ _⟩
set_option maxHeartbeats 400000 in
theorem to_le (a : Int) (b : Nat) (hc : ∀ W, (convert 36 39 (.float .f32 (sgl a))).run Try.prog W = .ok (.float .f64 b) W)
    (h1 : (FloatKind.f64.format.order b b != some .eq) = false) (h2 : (FloatKind.f64.format.order b 4886405595696988160 == some .gt || FloatKind.f64.format.order b 4886405595696988160 == some .eq) = false)
    (h3 : (FloatKind.f64.format.order b 14109777632551763968 == some .lt || FloatKind.f64.format.order b 14109777632551763968 == some .eq) = true) (w : World) :
    Calls Try.prog 24 #[.int .i64 a] w fun e w' => e = .returned (.int .i64 (-4611686018427387904)) ∧ Below w.heap.size w w' := by
  go_enter Try.func24, Try.ntmps24
  go_wp2_with fail
  refine (single_calls a _).mono ?_
  rintro e w' ⟨rfl, rfl⟩
  go_wp2_with fail
  go_ret
  exact ⟨rfl, Below.refl _ _⟩
set_option maxHeartbeats 400000 in
theorem to_mid (a : Int) (b c : Nat) (v : Int) (hc : ∀ W, (convert 36 39 (.float .f32 (sgl a))).run Try.prog W = .ok (.float .f64 b) W)
    (h1 : (FloatKind.f64.format.order b b != some .eq) = false) (h2 : (FloatKind.f64.format.order b 4886405595696988160 == some .gt || FloatKind.f64.format.order b 4886405595696988160 == some .eq) = false)
    (h3 : (FloatKind.f64.format.order b 14109777632551763968 == some .lt || FloatKind.f64.format.order b 14109777632551763968 == some .eq) = false)
    (hf : ∀ W, (callFunc 35 #[.float .f64 b]).run Try.prog W = .ok (.value (.float .f64 c)) W)
    (hv : ∀ W, (convert 39 3 (.float .f64 c)).run Try.prog W = .ok (.int .i64 v) W) (w : World) :
    Calls Try.prog 24 #[.int .i64 a] w fun e w' => e = .returned (.int .i64 v) ∧ Below w.heap.size w w' := by
  go_enter Try.func24, Try.ntmps24
  go_wp2_with fail
  refine (single_calls a _).mono ?_
  rintro e w' ⟨rfl, rfl⟩
  go_wp2_with fail
  go_ret
  exact ⟨rfl, Below.refl _ _⟩
theorem read_inf64 (n : Bool) : Ieee.double.read (Ieee.double.write (.infinity n)) = .infinity n := by
  cases n <;> rfl
theorem inf_ge (n : Bool) : (FloatKind.f64.format.order (Ieee.double.write (.infinity n)) 4886405595696988160 == some .gt || FloatKind.f64.format.order (Ieee.double.write (.infinity n)) 4886405595696988160 == some .eq) = !n := by
  have ho : FloatKind.f64.format.order (Ieee.double.write (.infinity n)) 4886405595696988160 = some (if n then .lt else .gt) := by
    show (Ieee.double.read (Ieee.double.write (.infinity n))).order (Ieee.double.read 4886405595696988160) = _
    rw [read_inf64, read_C1]; rfl
  rw [ho]; cases n <;> rfl
theorem inf_le (n : Bool) : (FloatKind.f64.format.order (Ieee.double.write (.infinity n)) 14109777632551763968 == some .lt || FloatKind.f64.format.order (Ieee.double.write (.infinity n)) 14109777632551763968 == some .eq) = n := by
  have ho : FloatKind.f64.format.order (Ieee.double.write (.infinity n)) 14109777632551763968 = some (if n then .lt else .gt) := by
    show (Ieee.double.read (Ieee.double.write (.infinity n))).order (Ieee.double.read 14109777632551763968) = _
    rw [read_inf64, read_C2]; rfl
  rw [ho]; cases n <;> rfl
theorem toR_zero (e : Int) : toR 0 e = 0 := by
  unfold toR
  split
  · exact rneS_small _ _ _ (by have := Nat.two_pow_pos (-e).toNat; omega)
  · rw [Nat.zero_mul]
theorem conv_int (n : Bool) (p q : Nat) (hp : bl p ≤ 53) (hq : q ≤ 9) (W : World) : (convert 39 3 (.float .f64 (Ieee.double.write (.number n (p * 2 ^ q) 0)))).run Try.prog W = .ok (.int .i64 (sgnd n ((p * 2 ^ q : Nat) : Int))) W := by
  refine run_convert_float_int (P := Try.prog) W 39 3 .f64 .i64 _ _ (by kernel_rfl) (by kernel_rfl) ?_
  have h := dtoInt n p q hp hq
  have h1 : p < 2 ^ 53 := Nat.lt_of_lt_of_le (bl_lt p) (Nat.pow_le_pow_right (by decide) hp)
  have h2 : 2 ^ q ≤ 2 ^ 9 := Nat.pow_le_pow_right (by decide) hq
  have e53 : (2 : Nat) ^ 53 = 9007199254740992 := by decide
  have e9 : (2 : Nat) ^ 9 = 512 := by decide
  rw [e53] at h1
  rw [e9] at h2
  have h3 := Nat.mul_le_mul (show p ≤ 9007199254740992 by omega) h2
  have hb : -9223372036854775808 ≤ sgnd n ((p * 2 ^ q : Nat) : Int) ∧ sgnd n ((p * 2 ^ q : Nat) : Int) ≤ 9223372036854775807 := by
    unfold sgnd; cases n
    · rw [if_neg (by decide)]; omega
    · rw [if_pos rfl]; omega
  unfold floatToIntVal
  have h' : (FloatKind.f64.decode (Ieee.double.write (.number n (p * 2 ^ q) 0))).toInt .zero = some (sgnd n ((p * 2 ^ q : Nat) : Int)) := h
  rw [h']
  exact if_pos hb
theorem lawI (a : Int) (w : World) : Calls Try.prog 24 #[.int .i64 a] w fun e w' => e = .returned (.int .i64 (lawV a)) ∧ Below w.heap.size w w' := by
  unfold lawV
  cases opened a with
  | nan n h hr hf =>
    obtain ⟨s, t, hr⟩ := hr
    rw [hr]; exact to_nan a s t hr w
  | inf n ha hs hr hf =>
    rw [hr]
    have hc := run_conv_inf a n hr
    have h1 := order_self64 _ _ (read_inf64 n)
    have h2 := inf_ge n
    have h3 := inf_le n
    cases n
    · exact to_ge a _ hc h1 h2 w
    · exact to_le a _ hc h1 h2 h3 w
  | num n m e h1 h2 h3 h4 ha hs hr hf =>
    rw [hr]
    by_cases z : m = 0
    · subst z
      have hd := dzero n e
      have hc := run_conv a n 0 e hr _ _ _ hd
      have g1 := order_self64 _ _ hd
      have g2 := ge_62 _ _ _ _ hd (by decide) (by decide)
      have g3 := le_62 _ _ _ _ hd (by decide) (by decide)
      rw [show (!n && decide ((10 : Int) ≤ -1074)) = false by cases n <;> rfl] at g2
      rw [show (n && decide ((10 : Int) ≤ -1074)) = false by cases n <;> rfl] at g3
      have hi : (Ieee.Datum.number n 0 (-1074)).integral .even = .number n (0 * 2 ^ 0) 0 := by
        show Ieee.Datum.number n (Ieee.Toward.even.cut n (0 <<< (0 : Nat)) 1074) 0 = _
        rw [cut_eq, Nat.zero_shiftLeft, rneS_small _ _ _ (Nat.two_pow_pos _)]
      have hf := run_round _ _ _ _ hd
      rw [hi] at hf
      have := to_mid a _ _ _ hc g1 g2 g3 hf (conv_int n 0 0 (by decide) (by decide)) w
      show Calls Try.prog 24 _ w fun e' w' => e' = .returned (.int .i64 (sgnd n (min (toR 0 e : Nat) 4611686018427387904))) ∧ _
      rw [toR_zero]
      exact this
    · have h24 : bl m ≤ 24 := bl_le_of (j := 24) (Nat.lt_of_lt_of_eq h1 (by decide))
      have hp := bl_pos m z
      have hd := dexact n m e z (by omega) (by omega) (by omega)
      have hupp := Nat.mul_lt_mul_of_pos_right (bl_lt m) (Nat.two_pow_pos (53 - bl m))
      rw [← Nat.pow_add, show bl m + (53 - bl m) = 53 by omega] at hupp
      have hlow := Nat.mul_le_mul_right (2 ^ (53 - bl m)) (bl_le m z)
      rw [← Nat.pow_add, show bl m - 1 + (53 - bl m) = 52 by omega] at hlow
      have e53 : (2 : Nat) ^ 53 = 9007199254740992 := by decide
      have e52 : (2 : Nat) ^ 52 = 4503599627370496 := by decide
      rw [e53] at hupp
      rw [e52] at hlow
      have hc := run_conv a n m e hr _ _ _ hd
      have g1 := order_self64 _ _ hd
      have g2 := ge_62 _ _ _ _ hd hupp (fun _ => hlow)
      have g3 := le_62 _ _ _ _ hd hupp (fun _ => hlow)
      show Calls Try.prog 24 _ w fun e' w' => e' = .returned (.int .i64 (sgnd n (min (toR m e : Nat) 4611686018427387904))) ∧ _
      by_cases c : 10 ≤ e + bl m - 53
      · have hR : toR m e = m * 2 ^ (53 - bl m) * 2 ^ (e + bl m - 53).toNat := by
          unfold toR
          rw [if_neg (by omega), Nat.mul_assoc, ← Nat.pow_add, show 53 - bl m + (e + bl m - 53).toNat = e.toNat by omega]
        have hge : 4611686018427387904 ≤ toR m e := by
          rw [hR]
          have h5 : 2 ^ 10 ≤ 2 ^ (e + bl m - 53).toNat := Nat.pow_le_pow_right (by decide) (by omega)
          have e10 : (2 : Nat) ^ 10 = 1024 := by decide
          rw [e10] at h5
          have := Nat.mul_le_mul hlow h5
          omega
        rw [show min ((toR m e : Nat) : Int) 4611686018427387904 = 4611686018427387904 by omega]
        rw [decide_eq_true c] at g2 g3
        cases n
        · exact to_ge a _ hc g1 g2 w
        · exact to_le a _ hc g1 g2 g3 w
      · rw [decide_eq_false c] at g2 g3
        rw [show (!n && false) = false by cases n <;> rfl] at g2
        rw [show (n && false) = false by cases n <;> rfl] at g3
        obtain ⟨p, q, p1, p2, p3, p4⟩ := round_eq m e z h24 n (by omega)
        have hf := run_round _ _ _ _ hd
        rw [p4] at hf
        have := to_mid a _ _ _ hc g1 g2 g3 hf (conv_int n p q p1 p2) w
        have hle : toR m e ≤ 4611686018427387904 := by
          rw [p3]
          have h1 : p < 2 ^ 53 := Nat.lt_of_lt_of_le (bl_lt p) (Nat.pow_le_pow_right (by decide) p1)
          have h2 : 2 ^ q ≤ 2 ^ 9 := Nat.pow_le_pow_right (by decide) p2
          have e9 : (2 : Nat) ^ 9 = 512 := by decide
          rw [e53] at h1
          rw [e9] at h2
          have h3 := Nat.mul_le_mul (show p ≤ 9007199254740992 by omega) h2
          omega
        rw [show min ((toR m e : Nat) : Int) 4611686018427387904 = ((toR m e : Nat) : Int) by omega, p3]
        exact this
set_option maxRecDepth 100000 in
set_option maxHeartbeats 4000000 in
theorem laws_FnExactFToInt.calls (a0 : Int) (r : Bool) (w : World) (h : r = true ∧ (Lit.int .i64 a0).wf = true) :
    Calls Try.prog 9 #[.int .i64 a0] w fun e w' => e = .returned (.bool r) ∧ Below w.heap.size w w' := by
  obtain ⟨rfl, hw⟩ := h
  have hS := lawS a0 hw
  have hI := lawI a0
  generalize lawV a0 = v at hS hI
  go_enter Try.func9, Try.ntmps9
  go_wp2_with fail
  refine (hS _).mono ?_
  rintro e w1 ⟨rfl, b1⟩
  go_wp2_with fail
  refine (hI _).mono ?_
  rintro e w2 ⟨rfl, b2⟩
  go_wp2_with fail
  go_ret
  exact ⟨rfl, below_step b1 b2⟩
end Go.Proofs.Ytconefdllomgbaa.PFnExactFToInt
namespace Go.Proofs.Ytconefdllomgbaa.Pure
set_option linter.unusedVariables false in
theorem FnExactFToInt (a0 : Int) (w0 : (Lit.int .i64 a0).wf = true) : true = true ∧ (Lit.int .i64 a0).wf = true := ⟨rfl, w0⟩
end Go.Proofs.Ytconefdllomgbaa.Pure
