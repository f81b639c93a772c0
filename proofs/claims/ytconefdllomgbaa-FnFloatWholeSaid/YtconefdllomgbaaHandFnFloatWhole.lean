/- laws.FnFloatWhole, walked: with whole numbers of at most 12 bits floats reckon exactly. No condition. -/
import Derived.Test.YtconefdllomgbaaHandFnExactFAdd
import Derived.Test.YtconefdllomgbaaHandFnExactFOfInt
import Derived.Test.YtconefdllomgbaaHandFnExactFToInt
import Derived.Test.YtconefdllomgbaaPFnFloatWholex1
namespace Go.Proofs.Ytconefdllomgbaa.PFnFloatWhole
open Go.RowKit Go.Proofs.Ytconefdllomgbaa.Aid Go.Proofs.Ytconefdllomgbaa.FPlain Go.Proofs.Ytconefdllomgbaa.FWalk Go.Proofs.Ytconefdllomgbaa.FOpen Go.Proofs.Ytconefdllomgbaa.FSpec Go.Proofs.YtconefdllomgbaaW.PrintWords Go.Proofs.YtconefdllomgbaaW.PrintLast Go.Proofs.YtconefdllomgbaaW.PrintMore
set_option linter.unusedVariables false
set_option linter.unusedSimpArgs false
/-- The float of a whole number p with its sign. -/
def F (s : Bool) (p : Nat) : Int := ((sgn s + putR p 0 false : Nat) : Int)
def sgnd (n : Bool) (R : Int) : Int := if n then -R else R
theorem sgn_cases (s : Bool) : sgn s = 0 ∨ sgn s = 2147483648 := by unfold sgn; cases s <;> simp
theorem sgl_F (s : Bool) (p : Nat) : sgl (F s p) = sgn s + putR p 0 false := by
  have h1 := sgn_cases s
  have h2 := putR_le p 0 false
  unfold sgl F
  rw [if_neg (by omega)]; omega
theorem read_F (s : Bool) (p : Nat) (hp : p < 16777216) : ∃ k : Nat, k ≤ 149 ∧ Ieee.single.read (sgl (F s p)) = .number s (p * 2 ^ k) (-(k : Int)) := by
  rw [sgl_F, read_eq]
  have hn : (∃ c, sgn s = c * 2147483648 ∧ c < 2 ∧ (c == 1) = s) := by
    cases s
    · exact ⟨0, rfl, by decide, rfl⟩
    · exact ⟨1, rfl, by decide, rfl⟩
  obtain ⟨c, c1, c2, c3⟩ := hn
  have hpl := putR_le p 0 false
  have hmod : (sgn s + putR p 0 false) % 2147483648 = putR p 0 false := by omega
  have hdiv : (sgn s + putR p 0 false) / 2147483648 % 2 = c := by omega
  rw [hmod, hdiv, c3]
  by_cases z : p = 0
  · subst z
    have p0 : putR 0 0 false = 0 := if_pos rfl
    refine ⟨149, by omega, ?_⟩
    rw [p0, if_pos (by decide), Nat.zero_mul]; rfl
  · have hL : bl p ≤ 24 := bl_le_of (j := 24) (Nat.lt_of_lt_of_eq hp (by decide))
    have hL1 := bl_pos p z
    have hlast : lastOf p 0 = (bl p : Int) - 24 := by unfold lastOf; omega
    have h1 := Nat.mul_le_mul_right (2 ^ (24 - bl p)) (bl_le p z)
    rw [← Nat.pow_add, show bl p - 1 + (24 - bl p) = 23 by omega] at h1
    have h2 := Nat.mul_lt_mul_of_pos_right (bl_lt p) (Nat.two_pow_pos (24 - bl p))
    rw [← Nat.pow_add, show bl p + (24 - bl p) = 24 by omega] at h2
    have e23 : (2 : Nat) ^ 23 = 8388608 := by decide
    have e24 : (2 : Nat) ^ 24 = 16777216 := by decide
    rw [e23] at h1
    rw [e24] at h2
    have hv : putR p 0 false = (bl p + 125) * 8388608 + p * 2 ^ (24 - bl p) := by
      unfold putR keptOf
      rw [if_neg z, hlast, show (0 - ((bl p : Int) - 24)).toNat = 24 - bl p by omega, show ((bl p : Int) - 24 - 0).toNat = 0 by omega, Nat.pow_zero, rneS_one, show ((bl p : Int) - 24 + 149).toNat = bl p + 125 by omega]
      generalize p * 2 ^ (24 - bl p) = K at *
      exact Nat.min_eq_left (by omega)
    refine ⟨24 - bl p, by omega, ?_⟩
    rw [hv]
    generalize p * 2 ^ (24 - bl p) = K at *
    rw [if_neg (by omega), if_pos (by omega)]
    congr 1 <;> omega
theorem datF (s : Bool) (p k : Nat) : datV (some (.number s (p * 2 ^ k) (-(k : Int)))) = F s p := by
  rw [datV_num, PFnExactFAdd.putR_shift, show -(k : Int) + (k : Int) = 0 by omega]; rfl
theorem ofInt_F (m : Int) : ofIntV m = F (decide (m < 0)) m.natAbs := by
  have := datF (decide (m < 0)) m.natAbs 0
  rw [Nat.pow_zero, Nat.mul_one] at this
  exact this
theorem mul_F (s t : Bool) (p q : Nat) (hp : p < 16777216) (hq : q < 16777216) : opV .mul (F s p) (F t q) = F (s ^^ t) (p * q) := by
  obtain ⟨k, _, hk⟩ := read_F s p hp
  obtain ⟨l, _, hl⟩ := read_F t q hq
  have h : opV .mul (F s p) (F t q) = datV ((Ieee.single.read (sgl (F s p))).product (Ieee.single.read (sgl (F t q)))) := opV_of rfl
  rw [h, hk, hl, ← datF (s ^^ t) (p * q) (k + l)]
  show datV (some (.number (s ^^ t) (p * 2 ^ k * (q * 2 ^ l)) (-(k : Int) + -(l : Int)))) = _
  rw [show -(k : Int) + -(l : Int) = -((k + l : Nat) : Int) by omega, Nat.pow_add, Nat.mul_mul_mul_comm]
theorem sgnd_mul (s : Bool) (p B : Nat) : PFnExactFAdd.sgnd s ((p * 2 ^ B : Nat) : Int) = sgnd s p * 2 ^ B := by
  unfold PFnExactFAdd.sgnd sgnd
  rw [Int.natCast_mul, Int.natCast_pow]
  cases s
  · rw [if_neg (by decide), if_neg (by decide)]; rfl
  · rw [if_pos rfl, if_pos rfl, Int.neg_mul]; rfl
theorem pow_pos (B : Nat) : (0 : Int) < 2 ^ B := Int.pow_pos (by decide)
theorem mul_lt_zero (x : Int) (B : Nat) : x * 2 ^ B < 0 ↔ x < 0 := by
  have h := pow_pos B
  constructor
  · intro g
    rcases Int.lt_or_le x 0 with c | c
    · exact c
    · have := Int.mul_nonneg c (Int.le_of_lt h); omega
  · intro g; exact Int.mul_neg_of_neg_of_pos g h
theorem mul_zero_iff (x : Int) (B : Nat) : x * 2 ^ B = 0 ↔ x = 0 := by
  have h := pow_pos B
  constructor
  · intro g
    rcases Int.mul_eq_zero.1 g with c | c
    · exact c
    · omega
  · intro g; rw [g, Int.zero_mul]
theorem shift_to (p k B : Nat) (h : k ≤ B) : p * 2 ^ k * 2 ^ (B - k) = p * 2 ^ B := by
  rw [Nat.mul_assoc, ← Nat.pow_add, show k + (B - k) = B by omega]
/-- Two floats of whole numbers, brought to one place. -/
theorem two_F (s t : Bool) (p q : Nat) (hp : p < 16777216) (hq : q < 16777216) : ∃ (k l B : Nat), k ≤ B ∧ l ≤ B ∧ Ieee.single.read (sgl (F s p)) = .number s (p * 2 ^ k) (-(k : Int)) ∧ Ieee.single.read (sgl (F t q)) = .number t (q * 2 ^ l) (-(l : Int)) ∧
    min (-(k : Int)) (-(l : Int)) = -(B : Int) := by
  obtain ⟨k, _, hk⟩ := read_F s p hp
  obtain ⟨l, _, hl⟩ := read_F t q hq
  exact ⟨k, l, max k l, by omega, by omega, hk, hl, by omega⟩
theorem add_F (s t : Bool) (p q : Nat) (hp : p < 16777216) (hq : q < 16777216) :
    opV .add (F s p) (F t q) = F (if sgnd s p + sgnd t q = 0 then s && t else decide (sgnd s p + sgnd t q < 0)) (sgnd s p + sgnd t q).natAbs := by
  obtain ⟨k, l, B, h1, h2, hk, hl, hB⟩ := two_F s t p q hp hq
  have h : opV .add (F s p) (F t q) = datV ((Ieee.single.read (sgl (F s p))).sum (Ieee.single.read (sgl (F t q)))) := opV_of rfl
  rw [h, hk, hl, PFnExactFAdd.sum_eq, hB, show (-(k : Int) - -(B : Int)).toNat = B - k by omega, show (-(l : Int) - -(B : Int)).toNat = B - l by omega,
    PFnExactFAdd.signed_eq, PFnExactFAdd.signed_eq, shift_to p k B h1, shift_to q l B h2, sgnd_mul, sgnd_mul, ← Int.add_mul]
  have e1 : ((sgnd s p + sgnd t q) * 2 ^ B).natAbs = (sgnd s p + sgnd t q).natAbs * 2 ^ B := by
    rw [Int.natAbs_mul, Int.natAbs_pow]; rfl
  rw [e1, datF]
  congr 1
  by_cases c : sgnd s p + sgnd t q = 0
  · rw [if_pos ((mul_zero_iff _ B).2 c), if_pos c]
  · rw [if_neg (fun g => c ((mul_zero_iff _ B).1 g)), if_neg c]
    simp only [mul_lt_zero]
theorem less_F (s t : Bool) (p q : Nat) (hp : p < 16777216) (hq : q < 16777216) : lessV (F s p) (F t q) = decide (sgnd s p < sgnd t q) := by
  obtain ⟨k, l, B, h1, h2, hk, hl, hB⟩ := two_F s t p q hp hq
  have h : lessV (F s p) (F t q) = ((Ieee.single.read (sgl (F s p))).order (Ieee.single.read (sgl (F t q))) == some .lt) := rfl
  rw [h, hk, hl]
  show (some (compare (Ieee.signed s (p * 2 ^ k) (-(k : Int) - min (-(k : Int)) (-(l : Int))).toNat) (Ieee.signed t (q * 2 ^ l) (-(l : Int) - min (-(k : Int)) (-(l : Int))).toNat)) == some .lt) = _
  rw [hB, show (-(k : Int) - -(B : Int)).toNat = B - k by omega, show (-(l : Int) - -(B : Int)).toNat = B - l by omega,
    PFnExactFAdd.signed_eq, PFnExactFAdd.signed_eq, shift_to p k B h1, shift_to q l B h2, sgnd_mul, sgnd_mul]
  have hc : ∀ x y : Int, (some (compare x y) == some Ordering.lt) = decide (x < y) := by
    intro x y
    rw [PFnExactFToInt.cmp_eq]
    by_cases c : x < y
    · rw [if_pos c, decide_eq_true c]; rfl
    · rw [if_neg c, decide_eq_false c]
      by_cases d : x = y
      · rw [if_pos d]; rfl
      · rw [if_neg d]; rfl
  rw [hc]
  have hi : sgnd s p * 2 ^ B < sgnd t q * 2 ^ B ↔ sgnd s p < sgnd t q := Int.mul_lt_mul_right (pow_pos B)
  simp only [hi]
theorem toR_F (p k : Nat) : PFnExactFToInt.toR (p * 2 ^ k) (-(k : Int)) = p := by
  unfold PFnExactFToInt.toR
  by_cases c : k = 0
  · subst c; rw [if_neg (by omega)]; simp
  · rw [if_pos (by omega), show (- -(k : Int)).toNat = k by omega]
    have := rneS_mul p 1 (2 ^ k) (Nat.two_pow_pos k) (by decide) false rfl
    rw [Nat.one_mul, rneS_one] at this
    exact this
theorem toInt_F (s : Bool) (p : Nat) (hp : p < 16777216) : PFnExactFToInt.lawV (F s p) = sgnd s p := by
  obtain ⟨k, _, hk⟩ := read_F s p hp
  unfold PFnExactFToInt.lawV
  rw [hk]
  show FDouble.sgnd s (min (PFnExactFToInt.toR (p * 2 ^ k) (-(k : Int)) : Nat) 4611686018427387904) = _
  rw [toR_F, show min ((p : Nat) : Int) 4611686018427387904 = (p : Int) by omega]; rfl
theorem div_F (s t : Bool) (p q : Nat) (hp : p * q < 16777216) (hp' : p < 16777216) (hq : q < 16777216) (hq0 : q ≠ 0) : opV .quo (F (s ^^ t) (p * q)) (F t q) = F s p := by
  obtain ⟨k, _, hk⟩ := read_F (s ^^ t) (p * q) hp
  obtain ⟨l, _, hl⟩ := read_F t q hq
  have h : opV .quo (F (s ^^ t) (p * q)) (F t q) = datV ((Ieee.single.read (sgl (F (s ^^ t) (p * q)))).quotient 25 (Ieee.single.read (sgl (F t q)))) := opV_of rfl
  rw [h, hk, hl]
  have hst : (!((s ^^ t) == t)) = s := by cases s <;> cases t <;> rfl
  have hx : ((s ^^ t) ^^ t) = s := by cases s <;> cases t <;> rfl
  have hn : q * 2 ^ l ≠ 0 := Nat.mul_ne_zero hq0 (Nat.ne_of_gt (Nat.two_pow_pos l))
  by_cases z : p = 0
  · subst z
    rw [Nat.zero_mul, Nat.zero_mul]
    have q1 : (Ieee.Datum.number (s ^^ t) 0 (-(k : Int))).quotient 25 (.number t (q * 2 ^ l) (-(l : Int))) = some (.number ((s ^^ t) ^^ t) 0 (-(k : Int) - -(l : Int) - (25 + (q * 2 ^ l).log2 - Nat.log2 0 : Nat) - 1)) := by
      show (if q * 2 ^ l = 0 then _ else _) = _
      rw [if_neg hn]
      simp only [Nat.shiftLeft_eq, Nat.zero_mul, Nat.zero_div, Nat.zero_mod]
      rfl
    have p0 : ∀ e b, putR 0 e b = 0 := fun _ _ => if_pos rfl
    rw [q1, datV_num, hx, p0]
    unfold F
    rw [p0]
  · have hm : p * q * 2 ^ k ≠ 0 := Nat.mul_ne_zero (Nat.mul_ne_zero z hq0) (Nat.ne_of_gt (Nat.two_pow_pos k))
    have hbig : p * q * 2 ^ k < 16777216 := by
      have := opened (F (s ^^ t) (p * q))
      cases this with
      | nan n h hr hf => obtain ⟨_, _, hr⟩ := hr; rw [hk] at hr; cases hr
      | inf n ha hs hr hf => rw [hk] at hr; cases hr
      | num n m e g1 g2 g3 g4 ha hs hr hf =>
        rw [hk] at hr
        cases hr
        exact g1
    obtain ⟨d, h1, h2⟩ := PFnExactFDiv.ieee_quot (s ^^ t) t (p * q * 2 ^ k) (q * 2 ^ l) (-(k : Int)) (-(l : Int)) hm hn hbig
    rw [h2, hst]
    have e1 : p * q * 2 ^ k * 2 ^ d = p * 2 ^ (k + d) * q := by rw [Nat.pow_add]; ac_rfl
    have hd : l < k + d := by
      rcases Nat.lt_or_ge l (k + d) with c | c
      · exact c
      · exfalso
        have h3 := (Nat.le_div_iff_mul_le (Nat.pos_of_ne_zero hn)).1 h1
        rw [e1, Nat.mul_comm q, ← Nat.mul_assoc] at h3
        have h4 := Nat.le_of_mul_le_mul_right h3 (Nat.pos_of_ne_zero hq0)
        have h5 : p * 2 ^ (k + d) ≤ p * 2 ^ l := Nat.mul_le_mul_left _ (Nat.pow_le_pow_right (by decide) c)
        have h6 := Nat.le_of_mul_le_mul_right (Nat.le_trans h4 h5) (Nat.two_pow_pos l)
        omega
    have e2 : p * q * 2 ^ k * 2 ^ d = p * 2 ^ (k + d - l) * (q * 2 ^ l) := by
      rw [e1, show k + d = (k + d - l) + l by omega, Nat.pow_add, Nat.add_sub_cancel]; ac_rfl
    have hdiv : p * q * 2 ^ k * 2 ^ d / (q * 2 ^ l) = p * 2 ^ (k + d - l) := by rw [e2, Nat.mul_div_cancel _ (Nat.pos_of_ne_zero hn)]
    have hmod : p * q * 2 ^ k * 2 ^ d % (q * 2 ^ l) = 0 := by rw [e2, Nat.mul_mod_left]
    have h3 := PFnExactFDiv.putR_quot (p * q * 2 ^ k * 2 ^ d) (q * 2 ^ l) (-(k : Int) - -(l : Int) - d) (Nat.pos_of_ne_zero hn) h1
    rw [hdiv, hmod] at h3
    rw [← h3]
    have h4 := PFnExactFAdd.putR_shift p (k + d - l) (-(k : Int) - -(l : Int) - d)
    rw [show -(k : Int) - -(l : Int) - (d : Int) + ((k + d - l : Nat) : Int) = 0 by omega] at h4
    show ((sgn s + putR (p * 2 ^ (k + d - l)) (-(k : Int) - -(l : Int) - d) false : Nat) : Int) = _
    rw [h4]; rfl
/-- The float of an int. -/
def G (m : Int) : Int := F (decide (m < 0)) m.natAbs
theorem sgnd_of (m : Int) : sgnd (decide (m < 0)) m.natAbs = m := by
  unfold sgnd
  by_cases c : m < 0
  · rw [decide_eq_true c, if_pos rfl]; omega
  · rw [decide_eq_false c, if_neg (by decide)]; omega
theorem add_G (m n : Int) (hm : m.natAbs < 16777216) (hn : n.natAbs < 16777216) : opV .add (G m) (G n) = G (m + n) := by
  unfold G
  rw [add_F _ _ _ _ hm hn, sgnd_of, sgnd_of]
  congr 1
  by_cases c : m + n = 0
  · rw [if_pos c, c]
    by_cases a : m < 0
    · rw [decide_eq_true a, decide_eq_false (show ¬ n < 0 by omega)]; rfl
    · rw [decide_eq_false a]; rfl
  · rw [if_neg c]
theorem sgnd_mulF (m n : Int) : sgnd (decide (m < 0) ^^ decide (n < 0)) ((m.natAbs * n.natAbs : Nat) : Int) = m * n := by
  rw [Int.natCast_mul]
  unfold sgnd
  by_cases a : m < 0 <;> by_cases b : n < 0
  · rw [decide_eq_true a, decide_eq_true b, show (m.natAbs : Int) = -m by omega, show (n.natAbs : Int) = -n by omega, Int.neg_mul_neg]; rfl
  · rw [decide_eq_true a, decide_eq_false b, show (m.natAbs : Int) = -m by omega, show (n.natAbs : Int) = n by omega, Int.neg_mul]; simp
  · rw [decide_eq_false a, decide_eq_true b, show (m.natAbs : Int) = m by omega, show (n.natAbs : Int) = -n by omega, Int.mul_neg]; simp
  · rw [decide_eq_false a, decide_eq_false b, show (m.natAbs : Int) = m by omega, show (n.natAbs : Int) = n by omega]; rfl
set_option maxRecDepth 100000 in
set_option maxHeartbeats 4000000 in
theorem walk_zero (A0 : Option Addr) (c0 : Nat) (l0 : List Int) (v0 v1 v2 v3 A B S P D : Int) (w : World) (hr0 : Kd.C (Kd.int .u8) w A0 l0.length l0) (hc0 : l0.length ≤ c0)
    (hbig : laws_big.f l0 = some false) (h0 : laws_at.f l0 0 = some v0) (h1 : laws_at.f l0 1 = some v1) (h2 : laws_at.f l0 2 = some v2) (h3 : laws_at.f l0 3 = some v3)
    (hA : ∀ w, Calls Try.prog 22 #[.int .i64 (wrap64 (wrap64 (wrap64 (v0 * 16) + Int.tmod v1 16) - 2048))] w fun e w' => e = .returned (.int .i64 A) ∧ Below w.heap.size w w')
    (hB : ∀ w, Calls Try.prog 22 #[.int .i64 (wrap64 (wrap64 (wrap64 (v2 * 16) + Int.tmod v3 16) - 2048))] w fun e w' => e = .returned (.int .i64 B) ∧ Below w.heap.size w w')
    (hS : ∀ w, Calls Try.prog 12 #[.int .i64 A, .int .i64 B] w fun e w' => e = .returned (.int .i64 S) ∧ Below w.heap.size w w')
    (hMN : ∀ w, Calls Try.prog 22 #[.int .i64 (wrap64 ((wrap64 (wrap64 (wrap64 (v0 * 16) + Int.tmod v1 16) - 2048)) + (wrap64 (wrap64 (wrap64 (v2 * 16) + Int.tmod v3 16) - 2048))))] w fun e w' => e = .returned (.int .i64 S) ∧ Below w.heap.size w w')
    (hP : ∀ w, Calls Try.prog 14 #[.int .i64 A, .int .i64 B] w fun e w' => e = .returned (.int .i64 P) ∧ Below w.heap.size w w')
    (hTP : ∀ w, Calls Try.prog 24 #[.int .i64 P] w fun e w' => e = .returned (.int .i64 (wrap64 ((wrap64 (wrap64 (wrap64 (v0 * 16) + Int.tmod v1 16) - 2048)) * (wrap64 (wrap64 (wrap64 (v2 * 16) + Int.tmod v3 16) - 2048))))) ∧ Below w.heap.size w w')
    (hTA : ∀ w, Calls Try.prog 24 #[.int .i64 A] w fun e w' => e = .returned (.int .i64 (wrap64 (wrap64 (wrap64 (v0 * 16) + Int.tmod v1 16) - 2048))) ∧ Below w.heap.size w w')
    (hL : ∀ w, Calls Try.prog 18 #[.int .i64 A, .int .i64 B] w fun e w' => e = .returned (.bool (decide ((wrap64 (wrap64 (wrap64 (v0 * 16) + Int.tmod v1 16) - 2048)) < (wrap64 (wrap64 (wrap64 (v2 * 16) + Int.tmod v3 16) - 2048))))) ∧ Below w.heap.size w w')
    (hz : ((wrap64 (wrap64 (wrap64 (v2 * 16) + Int.tmod v3 16) - 2048)) == 0) = true) (hz' : ((wrap64 (wrap64 (wrap64 (v2 * 16) + Int.tmod v3 16) - 2048)) != 0) = false) :
    Calls Try.prog 10 #[.slice A0 l0.length c0] w fun e w' => e = .returned (.bool true) ∧ Below w.heap.size w w' := by
  have hR : ∀ n, Kd.C (Kd.int .u8) (w.drewN n) A0 l0.length l0 := fun n => Kd.C_drewN hr0 n
  have hb := laws_big.calls A0 c0 l0 false w hr0 hc0 hbig
  have HR := Aside0.mk hR
  have HC := Aside0.mk hc0
  clear hr0 hR hc0
  go_enter Try.func10, Try.ntmps10
  go_wp2_with fail
  refine hb.mono ?_
  rintro e w1 ⟨rfl, ⟨m1, rfl⟩⟩
  go_wp2_with fail
  refine (laws_at.calls A0 c0 l0 0 v0 _ (HR.out _) HC.out h0).mono ?_
  rintro e w1 ⟨rfl, ⟨m2, rfl⟩⟩
  go_wp2_with fail
  refine (laws_at.calls A0 c0 l0 1 v1 _ (HR.out _) HC.out h1).mono ?_
  rintro e w1 ⟨rfl, ⟨m3, rfl⟩⟩
  go_wp2_with fail
  refine (laws_at.calls A0 c0 l0 2 v2 _ (HR.out _) HC.out h2).mono ?_
  rintro e w1 ⟨rfl, ⟨m4, rfl⟩⟩
  go_wp2_with fail
  refine (laws_at.calls A0 c0 l0 3 v3 _ (HR.out _) HC.out h3).mono ?_
  rintro e w1 ⟨rfl, ⟨m5, rfl⟩⟩
  go_wp2_with fail
  refine (hA _).mono ?_
  rintro e u0 ⟨rfl, b0⟩
  go_wp2_with fail
  refine (hB _).mono ?_
  rintro e u1 ⟨rfl, b1⟩
  go_wp2_with fail
  refine (hS _).mono ?_
  rintro e u2 ⟨rfl, b2⟩
  go_wp2_with fail
  refine (hMN _).mono ?_
  rintro e u3 ⟨rfl, b3⟩
  go_wp2_with fail
  refine (hP _).mono ?_
  rintro e u4 ⟨rfl, b4⟩
  go_wp2_with fail
  refine (hTP _).mono ?_
  rintro e u5 ⟨rfl, b5⟩
  go_wp2_with fail
  refine (hTA _).mono ?_
  rintro e u6 ⟨rfl, b6⟩
  go_wp2_with fail
  refine (hL _).mono ?_
  rintro e u7 ⟨rfl, b7⟩
  go_wp2_with fail
  go_ret
  refine ⟨rfl, ?_⟩
  have B0 := below_step (w := w) (by repeat (first | exact Below.refl _ _ | apply pw_below_drewN | apply below_drew1)) b0
  have B1 := below_step B0 b1
  have B2 := below_step B1 b2
  have B3 := below_step B2 b3
  have B4 := below_step B3 b4
  have B5 := below_step B4 b5
  have B6 := below_step B5 b6
  have B7 := below_step B6 b7
  exact B7
set_option maxRecDepth 100000 in
set_option maxHeartbeats 4000000 in
theorem walk_some (A0 : Option Addr) (c0 : Nat) (l0 : List Int) (v0 v1 v2 v3 A B S P D : Int) (w : World) (hr0 : Kd.C (Kd.int .u8) w A0 l0.length l0) (hc0 : l0.length ≤ c0)
    (hbig : laws_big.f l0 = some false) (h0 : laws_at.f l0 0 = some v0) (h1 : laws_at.f l0 1 = some v1) (h2 : laws_at.f l0 2 = some v2) (h3 : laws_at.f l0 3 = some v3)
    (hA : ∀ w, Calls Try.prog 22 #[.int .i64 (wrap64 (wrap64 (wrap64 (v0 * 16) + Int.tmod v1 16) - 2048))] w fun e w' => e = .returned (.int .i64 A) ∧ Below w.heap.size w w')
    (hB : ∀ w, Calls Try.prog 22 #[.int .i64 (wrap64 (wrap64 (wrap64 (v2 * 16) + Int.tmod v3 16) - 2048))] w fun e w' => e = .returned (.int .i64 B) ∧ Below w.heap.size w w')
    (hS : ∀ w, Calls Try.prog 12 #[.int .i64 A, .int .i64 B] w fun e w' => e = .returned (.int .i64 S) ∧ Below w.heap.size w w')
    (hMN : ∀ w, Calls Try.prog 22 #[.int .i64 (wrap64 ((wrap64 (wrap64 (wrap64 (v0 * 16) + Int.tmod v1 16) - 2048)) + (wrap64 (wrap64 (wrap64 (v2 * 16) + Int.tmod v3 16) - 2048))))] w fun e w' => e = .returned (.int .i64 S) ∧ Below w.heap.size w w')
    (hP : ∀ w, Calls Try.prog 14 #[.int .i64 A, .int .i64 B] w fun e w' => e = .returned (.int .i64 P) ∧ Below w.heap.size w w')
    (hTP : ∀ w, Calls Try.prog 24 #[.int .i64 P] w fun e w' => e = .returned (.int .i64 (wrap64 ((wrap64 (wrap64 (wrap64 (v0 * 16) + Int.tmod v1 16) - 2048)) * (wrap64 (wrap64 (wrap64 (v2 * 16) + Int.tmod v3 16) - 2048))))) ∧ Below w.heap.size w w')
    (hTA : ∀ w, Calls Try.prog 24 #[.int .i64 A] w fun e w' => e = .returned (.int .i64 (wrap64 (wrap64 (wrap64 (v0 * 16) + Int.tmod v1 16) - 2048))) ∧ Below w.heap.size w w')
    (hL : ∀ w, Calls Try.prog 18 #[.int .i64 A, .int .i64 B] w fun e w' => e = .returned (.bool (decide ((wrap64 (wrap64 (wrap64 (v0 * 16) + Int.tmod v1 16) - 2048)) < (wrap64 (wrap64 (wrap64 (v2 * 16) + Int.tmod v3 16) - 2048))))) ∧ Below w.heap.size w w')
    (hD : ∀ w, Calls Try.prog 16 #[.int .i64 P, .int .i64 B] w fun e w' => e = .returned (.int .i64 D) ∧ Below w.heap.size w w')
    (hTD : ∀ w, Calls Try.prog 24 #[.int .i64 D] w fun e w' => e = .returned (.int .i64 (wrap64 (wrap64 (wrap64 (v0 * 16) + Int.tmod v1 16) - 2048))) ∧ Below w.heap.size w w')
    (hz : ((wrap64 (wrap64 (wrap64 (v2 * 16) + Int.tmod v3 16) - 2048)) == 0) = false) (hz' : ((wrap64 (wrap64 (wrap64 (v2 * 16) + Int.tmod v3 16) - 2048)) != 0) = true) :
    Calls Try.prog 10 #[.slice A0 l0.length c0] w fun e w' => e = .returned (.bool true) ∧ Below w.heap.size w w' := by
  have hR : ∀ n, Kd.C (Kd.int .u8) (w.drewN n) A0 l0.length l0 := fun n => Kd.C_drewN hr0 n
  have hb := laws_big.calls A0 c0 l0 false w hr0 hc0 hbig
  have HR := Aside0.mk hR
  have HC := Aside0.mk hc0
  clear hr0 hR hc0
  go_enter Try.func10, Try.ntmps10
  go_wp2_with fail
  refine hb.mono ?_
  rintro e w1 ⟨rfl, ⟨m1, rfl⟩⟩
  go_wp2_with fail
  refine (laws_at.calls A0 c0 l0 0 v0 _ (HR.out _) HC.out h0).mono ?_
  rintro e w1 ⟨rfl, ⟨m2, rfl⟩⟩
  go_wp2_with fail
  refine (laws_at.calls A0 c0 l0 1 v1 _ (HR.out _) HC.out h1).mono ?_
  rintro e w1 ⟨rfl, ⟨m3, rfl⟩⟩
  go_wp2_with fail
  refine (laws_at.calls A0 c0 l0 2 v2 _ (HR.out _) HC.out h2).mono ?_
  rintro e w1 ⟨rfl, ⟨m4, rfl⟩⟩
  go_wp2_with fail
  refine (laws_at.calls A0 c0 l0 3 v3 _ (HR.out _) HC.out h3).mono ?_
  rintro e w1 ⟨rfl, ⟨m5, rfl⟩⟩
  go_wp2_with fail
  refine (hA _).mono ?_
  rintro e u0 ⟨rfl, b0⟩
  go_wp2_with fail
  refine (hB _).mono ?_
  rintro e u1 ⟨rfl, b1⟩
  go_wp2_with fail
  refine (hS _).mono ?_
  rintro e u2 ⟨rfl, b2⟩
  go_wp2_with fail
  refine (hMN _).mono ?_
  rintro e u3 ⟨rfl, b3⟩
  go_wp2_with fail
  refine (hP _).mono ?_
  rintro e u4 ⟨rfl, b4⟩
  go_wp2_with fail
  refine (hTP _).mono ?_
  rintro e u5 ⟨rfl, b5⟩
  go_wp2_with fail
  refine (hTA _).mono ?_
  rintro e u6 ⟨rfl, b6⟩
  go_wp2_with fail
  refine (hL _).mono ?_
  rintro e u7 ⟨rfl, b7⟩
  go_wp2_with fail
  refine (hP _).mono ?_
  rintro e u8 ⟨rfl, b8⟩
  go_wp2_with fail
  refine (hD _).mono ?_
  rintro e u9 ⟨rfl, b9⟩
  go_wp2_with fail
  refine (hTD _).mono ?_
  rintro e u10 ⟨rfl, b10⟩
  go_wp2_with fail
  go_ret
  refine ⟨rfl, ?_⟩
  have B0 := below_step (w := w) (by repeat (first | exact Below.refl _ _ | apply pw_below_drewN | apply below_drew1)) b0
  have B1 := below_step B0 b1
  have B2 := below_step B1 b2
  have B3 := below_step B2 b3
  have B4 := below_step B3 b4
  have B5 := below_step B4 b5
  have B6 := below_step B5 b6
  have B7 := below_step B6 b7
  have B8 := below_step B7 b8
  have B9 := below_step B8 b9
  have B10 := below_step B9 b10
  exact B10
set_option maxRecDepth 100000 in
theorem walk_big (A0 : Option Addr) (c0 : Nat) (l0 : List Int) (w : World) (hr0 : Kd.C (Kd.int .u8) w A0 l0.length l0) (hc0 : l0.length ≤ c0) (hbig : laws_big.f l0 = some true) :
    Calls Try.prog 10 #[.slice A0 l0.length c0] w fun e w' => e = .returned (.bool true) ∧ Below w.heap.size w w' := by
  have hb := laws_big.calls A0 c0 l0 true w hr0 hc0 hbig
  clear hr0 hc0
  go_enter Try.func10, Try.ntmps10
  go_wp2_with fail
  refine hb.mono ?_
  rintro e w1 ⟨rfl, ⟨m1, rfl⟩⟩
  go_wp2_with fail
  go_ret
  exact ⟨rfl, by repeat (first | exact Below.refl _ _ | apply pw_below_drewN | apply below_drew1)⟩
theorem rd_le (l0 : List Int) (hg : ∀ x ∈ l0, (Lit.int .u8 x).wf = true) (i : Int) : 0 ≤ rd l0 i ∧ rd l0 i ≤ 255 := by
  unfold rd
  rw [List.getD_eq_getElem?_getD]
  cases h : l0[i.toNat]? with
  | none => exact ⟨by decide, by decide⟩
  | some x =>
    have hx := hg x (List.mem_of_getElem? h)
    have h' : IntKind.u8.min ≤ x ∧ x ≤ IntKind.u8.max := by simpa [Lit.wf] using hx
    exact ⟨h'.1, h'.2⟩
theorem at_val (l0 : List Int) (hg : ∀ x ∈ l0, (Lit.int .u8 x).wf = true) (i : Int) (h0 : 0 ≤ i) (h3 : i ≤ 3) : ∃ v, laws_at.f l0 i = some v ∧ 0 ≤ v ∧ v ≤ 255 := by
  unfold laws_at.f
  by_cases c : i < (l0.length : Int)
  · have := rd_le l0 hg i
    rw [if_pos c, if_pos h0, wid (by omega) (by omega)]
    exact ⟨_, rfl, this.1, this.2⟩
  · rw [if_neg c, wid (by omega) (by omega), tmod_nn (by omega)]
    exact ⟨_, rfl, by omega, by omega⟩
theorem laws_FnFloatWhole.calls (A0 : Option Addr) (c0 : Nat) (l0 : List Int) (r : Bool) (w : World) (hr0 : Kd.C (Kd.int .u8) w A0 l0.length l0) (hc0 : l0.length ≤ c0) (h : r = true ∧ ∀ x ∈ l0, (Lit.int .u8 x).wf = true) :
    Calls Try.prog 10 #[.slice A0 l0.length c0] w fun e w' => e = .returned (.bool r) ∧ Below w.heap.size w w' := by
  obtain ⟨rfl, hg⟩ := h
  cases hbig : decide ((l0.length : Int) > 1048576) with
  | true => exact walk_big A0 c0 l0 w hr0 hc0 (by unfold laws_big.f; rw [hbig])
  | false =>
    have hb : laws_big.f l0 = some false := by unfold laws_big.f; rw [hbig]
    obtain ⟨v0, a0, b0, c0'⟩ := at_val l0 hg 0 (by decide) (by decide)
    obtain ⟨v1, a1, b1, c1⟩ := at_val l0 hg 1 (by decide) (by decide)
    obtain ⟨v2, a2, b2, c2⟩ := at_val l0 hg 2 (by decide) (by decide)
    obtain ⟨v3, a3, b3, c3⟩ := at_val l0 hg 3 (by decide) (by decide)
    have num : ∀ u v : Int, 0 ≤ u → u ≤ 255 → 0 ≤ v → v ≤ 255 → wrap64 (wrap64 (wrap64 (u * 16) + Int.tmod v 16) - 2048) = u * 16 + v % 16 - 2048 := by
      intro u v g1 g2 g3 g4
      rw [tmod_nn g3, wid (x := u * 16) (by omega) (by omega), wid (x := u * 16 + v % 16) (by omega) (by omega), wid (by omega) (by omega)]
    have hM := num v0 v1 b0 c0' b1 c1
    have hN := num v2 v3 b2 c2 b3 c3
    have bM : (wrap64 (wrap64 (wrap64 (v0 * 16) + Int.tmod v1 16) - 2048)).natAbs ≤ 2048 := by rw [hM]; omega
    have bN : (wrap64 (wrap64 (wrap64 (v2 * 16) + Int.tmod v3 16) - 2048)).natAbs ≤ 2048 := by rw [hN]; omega
    have W0 := fun A B S P D => walk_zero A0 c0 l0 v0 v1 v2 v3 A B S P D w hr0 hc0 hb a0 a1 a2 a3
    have W1 := fun A B S P D => walk_some A0 c0 l0 v0 v1 v2 v3 A B S P D w hr0 hc0 hb a0 a1 a2 a3
    clear hM hN num
    generalize wrap64 (wrap64 (wrap64 (v0 * 16) + Int.tmod v1 16) - 2048) = m at *
    generalize wrap64 (wrap64 (wrap64 (v2 * 16) + Int.tmod v3 16) - 2048) = n at *
    have hmn : m.natAbs * n.natAbs ≤ 4194304 := by
      have := Nat.mul_le_mul bM bN
      omega
    have hprod : -4194304 ≤ m * n ∧ m * n ≤ 4194304 := by
      have : (m * n).natAbs ≤ 4194304 := by rw [Int.natAbs_mul]; exact hmn
      omega
    have w1 : wrap64 (m + n) = m + n := wid (by omega) (by omega)
    have w2 : wrap64 (m * n) = m * n := wid (by omega) (by omega)
    rw [w1, w2] at W0 W1
    have hA : ∀ w, Calls Try.prog 22 #[.int .i64 m] w fun e w' => e = .returned (.int .i64 (G m)) ∧ Below w.heap.size w w' := fun w => by rw [G, ← ofInt_F]; exact ofInt_calls m w
    have hB : ∀ w, Calls Try.prog 22 #[.int .i64 n] w fun e w' => e = .returned (.int .i64 (G n)) ∧ Below w.heap.size w w' := fun w => by rw [G, ← ofInt_F]; exact ofInt_calls n w
    have hS : ∀ w, Calls Try.prog 12 #[.int .i64 (G m), .int .i64 (G n)] w fun e w' => e = .returned (.int .i64 (G (m + n))) ∧ Below w.heap.size w w' := fun w => by rw [← add_G m n (by omega) (by omega)]; exact add_calls _ _ w
    have hMN : ∀ w, Calls Try.prog 22 #[.int .i64 (m + n)] w fun e w' => e = .returned (.int .i64 (G (m + n))) ∧ Below w.heap.size w w' := fun w => by rw [G, ← ofInt_F]; exact ofInt_calls (m + n) w
    have hP : ∀ w, Calls Try.prog 14 #[.int .i64 (G m), .int .i64 (G n)] w fun e w' => e = .returned (.int .i64 (F (decide (m < 0) ^^ decide (n < 0)) (m.natAbs * n.natAbs))) ∧ Below w.heap.size w w' := fun w => by
      rw [← mul_F _ _ _ _ (by omega) (by omega)]; exact mul_calls _ _ w
    have hTP : ∀ w, Calls Try.prog 24 #[.int .i64 (F (decide (m < 0) ^^ decide (n < 0)) (m.natAbs * n.natAbs))] w fun e w' => e = .returned (.int .i64 (m * n)) ∧ Below w.heap.size w w' := fun w => by
      have := PFnExactFToInt.lawI (F (decide (m < 0) ^^ decide (n < 0)) (m.natAbs * n.natAbs)) w
      rw [toInt_F _ _ (by omega), sgnd_mulF] at this; exact this
    have hTA : ∀ w, Calls Try.prog 24 #[.int .i64 (G m)] w fun e w' => e = .returned (.int .i64 m) ∧ Below w.heap.size w w' := fun w => by
      have := PFnExactFToInt.lawI (G m) w
      rw [G, toInt_F _ _ (by omega), sgnd_of] at this; exact this
    have hL : ∀ w, Calls Try.prog 18 #[.int .i64 (G m), .int .i64 (G n)] w fun e w' => e = .returned (.bool (decide (m < n))) ∧ Below w.heap.size w w' := fun w => by
      have := less_calls (G m) (G n) w
      rw [G, G, less_F _ _ _ _ (by omega) (by omega), sgnd_of, sgnd_of] at this; exact this
    by_cases z : n = 0
    · exact W0 _ _ _ _ 0 hA hB hS hMN hP hTP hTA hL (beq_iff_eq.mpr z) (bne_eq_false_iff_eq.mpr z)
    · have hD : ∀ w, Calls Try.prog 16 #[.int .i64 (F (decide (m < 0) ^^ decide (n < 0)) (m.natAbs * n.natAbs)), .int .i64 (G n)] w fun e w' => e = .returned (.int .i64 (G m)) ∧ Below w.heap.size w w' := fun w => by
        have := div_calls (F (decide (m < 0) ^^ decide (n < 0)) (m.natAbs * n.natAbs)) (G n) w
        rw [show G n = F (decide (n < 0)) n.natAbs from rfl, div_F _ _ _ _ (by omega) (by omega) (by omega) (by omega)] at this; exact this
      exact W1 _ _ _ _ _ hA hB hS hMN hP hTP hTA hL hD hTA (beq_eq_false_iff_ne.mpr z) (bne_iff_ne.mpr z)
end Go.Proofs.Ytconefdllomgbaa.PFnFloatWhole
namespace Go.Proofs.Ytconefdllomgbaa.Pure
open Go.RowKit
set_option linter.unusedVariables false in
theorem FnFloatWhole (l0 : List Int) (hm : l0.length ≤ maxLen) (hg : ∀ x ∈ l0, (Lit.int .u8 x).wf = true) : true = true ∧ ∀ x ∈ l0, (Lit.int .u8 x).wf = true := ⟨rfl, hg⟩
end Go.Proofs.Ytconefdllomgbaa.Pure
