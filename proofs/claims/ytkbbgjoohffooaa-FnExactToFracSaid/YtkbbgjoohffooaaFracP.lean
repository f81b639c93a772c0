/- The plain law of ToFrac: the least small fraction that stands for a number, by search and by Euclid's rows. No condition. -/
import Derived.Test.YtkbbgjoohffooaaPFnExactToFracx1
import Derived.Test.YtkbbgjoohffooaaFermat
import Derived.Test.YtkbbgjoohffooaaAid
namespace Go.Proofs.Ytkbbgjoohffooaa.FracP
open Go.RowKit Go.Proofs.Ytkbbgjoohffooaa.PFnExactToFrac Go.Proofs.YtkbbgjoohffooaaW.PrintWords Go.Proofs.YtkbbgjoohffooaaW.PrintLast Go.Proofs.YtkbbgjoohffooaaW.PrintMore Go.Proofs.Ytkbbgjoohffooaa.Aid
set_option linter.unusedVariables false
set_option linter.unusedSimpArgs false
theorem mod_eq (a : Int) : (if (Int.tmod a 2147483647) < 0 then (some (wrap64 ((Int.tmod a 2147483647) + 2147483647))) else (some (Int.tmod a 2147483647))) = some (a % 2147483647) := by
  have h := tmod_fix a 2147483647 (by decide)
  have hb := tmod_bd a 2147483647 (by decide)
  by_cases c : Int.tmod a 2147483647 < 0
  · rw [if_pos c] at h ⊢; rw [wid (by omega) (by omega), h]
  · rw [if_neg c] at h ⊢; rw [h]
theorem sMod (a : Int) : spec_Mod.f a = some (a % 2147483647) := mod_eq a
theorem iMod (a : Int) : impl_Mod.f a = some (a % 2147483647) := mod_eq a
theorem m_lo (a : Int) : 0 ≤ a % 2147483647 := Int.emod_nonneg a (by decide)
theorem m_hi (a : Int) : a % 2147483647 < 2147483647 := Int.emod_lt_of_pos a (by decide)
theorem iRes (a : Int) : impl_res.f a = some (a % 2147483647) := by
  unfold impl_res.f; rw [iMod]; rfl
theorem prod_bd {a b : Int} (ha : 0 ≤ a) (ha' : a < 2147483647) (hb : 0 ≤ b) (hb' : b < 2147483647) : 0 ≤ a * b ∧ a * b ≤ 4611686009837453316 := by
  refine ⟨Int.mul_nonneg ha hb, ?_⟩
  have := Int.mul_le_mul (show a ≤ 2147483646 by omega) (show b ≤ 2147483646 by omega) hb (by decide)
  omega
theorem rTimes (a b : Int) (ha : 0 ≤ a) (ha' : a < 2147483647) (hb : 0 ≤ b) (hb' : b < 2147483647) : impl_residue_times.f a b = some (a * b % 2147483647) := by
  have h := prod_bd ha ha' hb hb'
  unfold impl_residue_times.f
  rw [wid (by omega) (by omega), tmod_nn h.1]
theorem iTimes (a b : Int) : impl_Times.f a b = some (a % 2147483647 * (b % 2147483647) % 2147483647) := by
  unfold impl_Times.f
  rw [iRes, iRes]; simp only [Option.bind_some]
  rw [rTimes _ _ (m_lo a) (m_hi a) (m_lo b) (m_hi b)]; rfl
/-- The exponent of an inverse. -/
def PE : Nat := 2147483645
theorem PE_cast : ((PE : Nat) : Int) = 2147483645 := rfl
attribute [irreducible] PE
theorem mm (a b : Int) : a % 2147483647 * (b % 2147483647) % 2147483647 = a * b % 2147483647 := (Int.mul_emod a b _).symm
theorem mml (a b : Int) : a % 2147483647 * b % 2147483647 = a * b % 2147483647 := by rw [Int.mul_emod, Int.emod_emod_of_dvd _ (Int.dvd_refl _), ← Int.mul_emod]
theorem mmr (a b : Int) : a * (b % 2147483647) % 2147483647 = a * b % 2147483647 := by rw [Int.mul_emod, Int.emod_emod_of_dvd _ (Int.dvd_refl _), ← Int.mul_emod]
theorem mmod (a : Int) : a % 2147483647 % 2147483647 = a % 2147483647 := Int.emod_emod_of_dvd _ (Int.dvd_refl _)
theorem pow_half (a : Int) (n : Nat) : a ^ n = a ^ (n / 2) * a ^ (n / 2) * a ^ (n % 2) := by
  rw [← Int.pow_add, ← Int.pow_add]; congr 1; omega
theorem pow_mod (a : Int) : ∀ n : Nat, (a % 2147483647) ^ n % 2147483647 = a ^ n % 2147483647 := by
  intro n
  induction n with
  | zero => rw [Int.pow_zero, Int.pow_zero]
  | succ n ih => rw [Int.pow_succ, Int.pow_succ, Int.mul_emod, ih, mmod, mm]
def invI (a : Int) : Int := (a % 2147483647) ^ PE % 2147483647
theorem iPowLoop (d : Nat) : ∀ (k : Nat) (r : Int) (n : Nat) (out : Int), 0 ≤ r → r < 2147483647 → 0 ≤ out → out < 2147483647 → n < 2 ^ d → n < 9223372036854775807 → d < k → impl_residue_power.l0 k r n out = some (out * r ^ n % 2147483647) := by
  induction d with
  | zero =>
    intro k r n out r0 r1 o0 o1 h _ hk
    obtain ⟨k, rfl⟩ : ∃ m, k = m + 1 := ⟨k - 1, by omega⟩
    have e : n = 0 := by have : (2 : Nat) ^ 0 = 1 := rfl
                         omega
    subst e
    simp only [impl_residue_power.l0]
    rw [if_neg (by decide), Int.pow_zero, Int.mul_one, Int.emod_eq_of_lt o0 o1]
  | succ d ih =>
    intro k r n out r0 r1 o0 o1 h h' hk
    obtain ⟨k, rfl⟩ : ∃ m, k = m + 1 := ⟨k - 1, by omega⟩
    simp only [impl_residue_power.l0]
    by_cases c : n = 0
    · subst c
      rw [if_neg (by decide), Int.pow_zero, Int.mul_one, Int.emod_eq_of_lt o0 o1]
    · have hp : 2 ^ (d + 1) = 2 * 2 ^ d := by rw [Nat.pow_succ]; omega
      have e1 : (n : Int) / 2 = ((n / 2 : Nat) : Int) := by omega
      have e2 : (n : Int) % 2 = ((n % 2 : Nat) : Int) := by omega
      rw [if_pos (by omega), and_one, e1, e2, rTimes _ _ r0 r1 r0 r1, rTimes _ _ o0 o1 r0 r1]
      simp only [Option.bind_some]
      have sq : (r * r % 2147483647) ^ (n / 2) % 2147483647 = r ^ (n / 2) * r ^ (n / 2) % 2147483647 := by rw [pow_mod, Int.mul_pow]
      have hh := pow_half r n
      rcases Nat.mod_two_eq_zero_or_one n with m | m
      · rw [m, if_neg (by decide), ih k _ _ _ (m_lo _) (m_hi _) o0 o1 (by omega) (by omega) (by omega), ← mmr, sq, hh, m, Int.pow_zero, Int.mul_one, mmr]
      · rw [m, if_pos (by decide), ih k _ _ _ (m_lo _) (m_hi _) (m_lo _) (m_hi _) (by omega) (by omega) (by omega), mml, ← mmr, sq, mmr, hh, m, Int.pow_one]
        congr 2
        rw [Int.mul_assoc, Int.mul_comm r, Int.mul_assoc]
theorem iPow (k : Nat) (r : Int) (n : Nat) (r0 : 0 ≤ r) (r1 : r < 2147483647) (h : n ≤ 2147483645) (hk : 31 < k) : impl_residue_power.f k r n = some (r ^ n % 2147483647) := by
  unfold impl_residue_power.f
  rw [iPowLoop 31 k r n 1 r0 r1 (by decide) (by decide) (by have : (2 : Nat) ^ 31 = 2147483648 := by decide
                                                            omega) (by omega) hk, Int.one_mul]
theorem iInv (k : Nat) (hk : 31 < k) (a : Int) : impl_Inverse.f k a = some (invI a) := by
  unfold impl_Inverse.f invI
  rw [iRes]; simp only [Option.bind_some]
  rw [← PE_cast, iPow k _ PE (m_lo a) (m_hi a) (by have := PE_cast; omega) hk]; rfl
theorem PE_succ : PE + 1 = 2147483647 - 1 := by
  have := PE_cast
  omega
theorem inv_pow (c : Int) (h : c % 2147483647 ≠ 0) : (c % 2147483647) ^ PE * (c % 2147483647) % 2147483647 = 1 := by
  obtain ⟨B, hB⟩ := Int.eq_ofNat_of_zero_le (m_lo c)
  rw [hB] at h ⊢
  have hb : B % 2147483647 ≠ 0 := by
    have := m_hi c
    rw [Nat.mod_eq_of_lt (by omega)]; omega
  have f' : ∀ m : Nat, m + 1 = 2147483647 → B ^ m % 2147483647 = 1 := by
    intro m hm
    have f := Fermat.fermat Fermat.prime_m31 B hb
    rwa [show 2147483647 - 1 = m by omega] at f
  have f := f' (PE + 1) (by have := PE_succ; omega)
  rw [← Int.pow_succ]
  show (B : Int) ^ (PE + 1) % 2147483647 = 1
  have e : (((B ^ (PE + 1) % 2147483647 : Nat)) : Int) = ((1 : Nat) : Int) := congrArg _ f
  rw [Int.natCast_emod, Int.natCast_pow] at e
  exact e
theorem inv_law (c : Int) (h : c % 2147483647 ≠ 0) : invI c * c % 2147483647 = 1 := by
  unfold invI
  rw [mml, ← mmr]; exact inv_pow c h
theorem inv_mod (x : Int) : invI (x % 2147483647) = invI x := by unfold invI; rw [mmod]
theorem inv_mul (x y : Int) : invI (x * y) = invI x * invI y % 2147483647 := by
  unfold invI
  rw [mm, pow_mod, Int.mul_pow, ← mm, ← pow_mod x, ← pow_mod y, mm]
def overI (a b : Int) : Int := a * invI b % 2147483647
theorem iOver (k : Nat) (hk : 31 < k) (a b : Int) : impl_Over.f k a b = some (overI a b) := by
  unfold impl_Over.f overI
  rw [iInv k hk]; simp only [Option.bind_some, iTimes, mm]
def inB (a b c : Int) : Bool := decide (b ≤ a) && decide (a ≤ c)
theorem inB_iff (a b c : Int) : inB a b c = true ↔ b ≤ a ∧ a ≤ c := by unfold inB; simp
theorem inB_not (a b c : Int) : inB a b c = false ↔ ¬ (b ≤ a ∧ a ≤ c) := by rw [← inB_iff]; simp
theorem in_body (a b c : Int) : (if a ≥ b then (some (decide (a ≤ c))) else (some false)) = some (inB a b c) := by
  unfold inB
  by_cases h : b ≤ a
  · rw [if_pos h]; simp [h]
  · rw [if_neg h]; simp [h]
theorem ite_and (b c : Bool) : (if b = true then some c else some false) = some (b && c) := by cases b <;> rfl
theorem ite_same {α : Type} (b : Bool) (x : α) : (if b = true then x else x) = x := by cases b <;> rfl
theorem gcd_step (a b : Nat) : Nat.gcd b (a % b) = Nat.gcd a b := by
  rw [Nat.gcd_comm b, ← Nat.gcd_rec, Nat.gcd_comm]
theorem iGcdLoop : ∀ (k : Nat) (x y : Int), -32767 ≤ x → x ≤ 32767 → y.natAbs < k → -32767 ≤ y → y ≤ 32767 → impl_gcd.l0 k x y = some ((Nat.gcd x.natAbs y.natAbs : Nat) : Int) := by
  intro k
  induction k with
  | zero => intro x y _ _ h; omega
  | succ k ih =>
    intro x y x0 x1 h y0 y1
    simp only [impl_gcd.l0]
    by_cases c : y = 0
    · subst c
      rw [if_pos rfl, wid (by omega) (by omega)]
      congr 1
      simp only [Int.natAbs_zero, Nat.gcd_zero_right]
      unfold mx
      split <;> omega
    · have e : (Int.tmod x y).natAbs = x.natAbs % y.natAbs := Int.natAbs_tmod x y
      have l := Nat.mod_lt x.natAbs (show 0 < y.natAbs by omega)
      rw [if_neg c, ih y _ y0 y1 (by omega) (by omega) (by omega), e, gcd_step]
def fracB (n d : Int) : Bool := inB d 1 32767 && (inB n (-32767) 32767 && (((Nat.gcd n.natAbs d.natAbs : Nat) : Int) == 1))
theorem iFrac (k : Nat) (hk : 40000 ≤ k) (n d : Int) : impl_FracOk.f k n d = some (fracB n d) := by
  unfold impl_FracOk.f fracB inB
  by_cases h1 : d ≥ 1
  · rw [if_pos h1]
    by_cases h2 : d ≤ 32767
    · rw [if_pos h2]
      by_cases h3 : n ≥ -32767
      · rw [if_pos h3]
        by_cases h4 : n ≤ 32767
        · rw [if_pos h4]
          unfold impl_gcd.f
          rw [iGcdLoop k n d h3 h4 (by omega) (by omega) h2]
          simp [h1, h2, h3, h4]
        · rw [if_neg h4]; simp [h4]
      · rw [if_neg h3]; simp [show ¬ -32767 ≤ n by omega]
    · rw [if_neg h2]; simp [h2]
  · rw [if_neg h1]; simp [show ¬ 1 ≤ d by omega]
def ofFracI (n d : Int) : Int := if fracB n d = true then overI n d else 0
theorem iOfFrac (n d : Int) : impl_OfFrac.f 40001 n d = some (ofFracI n d) := by
  unfold impl_OfFrac.f ofFracI
  rw [iFrac 40001 (by decide)]
  simp only [Option.bind_some]
  split
  · rw [iOver 40001 (by decide)]; rfl
  · rfl
/-! ### the rows of Euclid -/
/-- n / d is a small fraction that stands for x. -/
def Good (x n d : Int) : Prop := (∃ q, n - d * x = 2147483647 * q) ∧ -32767 ≤ n ∧ n ≤ 32767 ∧ 1 ≤ d ∧ d ≤ 32767
/-- Two rows of Euclid's walk from the prime and x. -/
def Inv (x r0 t0 r1 t1 : Int) : Prop := ∃ sg T0 T1 a b : Int, (sg = 1 ∨ sg = -1) ∧ t1 = sg * T1 ∧ t0 = -(sg * T0) ∧ 0 ≤ T0 ∧ 1 ≤ T1 ∧ r0 * T1 + r1 * T0 = 2147483647 ∧ r0 + sg * T0 * x = 2147483647 * a ∧ r1 - sg * T1 * x = 2147483647 * b ∧ 0 ≤ r1 ∧ r1 < r0 ∧ 32767 < r0 ∧ r0 ≤ 2147483647
theorem inv_start (x : Int) (h0 : 0 ≤ x) (h1 : x < 2147483647) : Inv x 2147483647 0 x 1 :=
  ⟨1, 0, 1, 1, 0, .inl rfl, by omega, by omega, by omega, by omega, by omega, by simp, by simp, h0, h1, by decide, by decide⟩
theorem inv_step {x r0 t0 r1 t1 : Int} (h : Inv x r0 t0 r1 t1) (c : 32767 < r1) :
    Inv x r1 t1 (r0 - r0 / r1 * r1) (t0 - r0 / r1 * t1) ∧ (0 ≤ r0 / r1 * r1 ∧ r0 / r1 * r1 ≤ r0) ∧ (-2147483647 ≤ r0 / r1 * t1 ∧ r0 / r1 * t1 ≤ 2147483647) ∧ (-2147483647 ≤ t0 - r0 / r1 * t1 ∧ t0 - r0 / r1 * t1 ≤ 2147483647) ∧ r0 - r0 / r1 * r1 < r1 ∧ 0 ≤ r0 - r0 / r1 * r1 := by
  obtain ⟨sg, T0, T1, a, b, hs, e1, e0, p0, p1, hd, ha, hb, q1, q2, q3, q4⟩ := h
  obtain ⟨q, hq⟩ : ∃ q, q = r0 / r1 := ⟨_, rfl⟩
  obtain ⟨m, hm⟩ : ∃ m, m = r0 % r1 := ⟨_, rfl⟩
  have hqm : r1 * q + m = r0 := by rw [hq, hm]; exact Int.mul_ediv_add_emod r0 r1
  have m0 : 0 ≤ m := by rw [hm]; exact Int.emod_nonneg _ (by omega)
  have m1 : m < r1 := by rw [hm]; exact Int.emod_lt_of_pos _ (by omega)
  have q0 : 0 ≤ q := by rw [hq]; exact Int.ediv_nonneg (by omega) (by omega)
  rw [← hq]
  have eq1 : r0 - q * r1 = m := by rw [Int.mul_comm q r1]; omega
  rw [eq1]
  have hT : 0 ≤ q * T1 := Int.mul_nonneg q0 (by omega)
  have hT' : T1 * 1 ≤ T1 + q * T1 := by omega
  have big : r1 * (q * T1 + T0) ≤ 2147483647 := by
    have : r1 * (q * T1 + T0) = (r1 * q) * T1 + r1 * T0 := by rw [Int.mul_add, Int.mul_assoc]
    have h2 : (r1 * q + m) * T1 = r1 * q * T1 + m * T1 := Int.add_mul ..
    have h3 : 0 ≤ m * T1 := Int.mul_nonneg m0 (by omega)
    rw [hqm] at h2
    omega
  have small : q * T1 + T0 ≤ 2147483647 := by
    have : 1 * (q * T1 + T0) ≤ r1 * (q * T1 + T0) := Int.mul_le_mul_of_nonneg_right (by omega) (by omega)
    omega
  have qt : q * t1 = sg * (q * T1) := by rw [e1, Int.mul_left_comm]
  have tt : t0 - q * t1 = -(sg * (q * T1 + T0)) := by rw [qt, e0, Int.mul_add]; omega
  have rr : q * r1 = r0 - m := by omega
  refine ⟨⟨-sg, T1, q * T1 + T0, b, a - q * b, by omega, ?_, ?_, by omega, ?_, ?_, ?_, ?_, m0, m1, c, by omega⟩, by omega, ?_, ?_, m1, m0⟩
  · rw [tt, Int.neg_mul]
  · rw [e1]; rw [Int.neg_mul, Int.neg_neg]
  · have q1' : 1 ≤ q := by
      rcases Int.lt_or_le q 1 with hc | hc
      · have : q = 0 := by omega
        rw [this] at hqm; simp at hqm; omega
      · exact hc
    have : 1 * 1 ≤ q * T1 := Int.mul_le_mul q1' p1 (by decide) (by omega)
    omega
  · have : r1 * (q * T1 + T0) = (r1 * q) * T1 + r1 * T0 := by rw [Int.mul_add, Int.mul_assoc]
    have h2 : (r1 * q + m) * T1 = r1 * q * T1 + m * T1 := Int.add_mul ..
    rw [hqm] at h2
    omega
  · rw [Int.neg_mul, Int.neg_mul]; omega
  · have h3 : -sg * (q * T1 + T0) * x = -(sg * T0 * x) - q * (sg * T1 * x) := by
      rw [Int.neg_mul, Int.neg_mul, Int.mul_add, Int.add_mul, Int.mul_left_comm sg q T1, Int.mul_assoc q]; omega
    rw [h3, Int.mul_sub, ← Int.mul_left_comm q 2147483647 b, ← hb, ← ha, Int.mul_sub q r1]
    have := eq1
    omega
  · rcases hs with rfl | rfl <;> (rw [qt]; omega)
  · rcases hs with rfl | rfl <;> (rw [tt]; omega)
theorem lattice {x r0 t0 r1 t1 n0 d0 : Int} (h : Inv x r0 t0 r1 t1) (c : r1 ≤ 32767) (g : Good x n0 d0) (mn : ∀ n d, Good x n d → d0 ≤ d) :
    (n0 = if t1 < 0 then -r1 else r1) ∧ (d0 = if t1 < 0 then -t1 else t1) ∧ Nat.gcd n0.natAbs d0.natAbs = 1 := by
  obtain ⟨sg, T0, T1, a, b, hs, e1, e0, p0, p1, hd, ha, hb, q1, q2, q3, q4⟩ := h
  obtain ⟨⟨q, hq⟩, n1, n2, d1, d2⟩ := g
  have ss : sg * sg = 1 := by rcases hs with rfl | rfl <;> rfl
  -- A = n0 T1 - d0 sg r1 = p u
  obtain ⟨u, hu⟩ : ∃ u, n0 * T1 - d0 * (sg * r1) = 2147483647 * u := by
    refine ⟨q * T1 - d0 * sg * b, ?_⟩
    have k1 : n0 * T1 = 2147483647 * (q * T1) + d0 * x * T1 := by rw [← Int.mul_assoc, ← hq, Int.sub_mul]; omega
    have k2 : d0 * (sg * r1) = 2147483647 * (d0 * sg * b) + d0 * x * T1 := by
      have : r1 = 2147483647 * b + sg * T1 * x := by omega
      rw [this, Int.mul_add, Int.mul_add]
      have e : sg * (sg * T1 * x) = T1 * x := by rw [← Int.mul_assoc, ← Int.mul_assoc, ss, Int.one_mul]
      rw [e, Int.mul_left_comm sg, Int.mul_left_comm d0, Int.mul_assoc d0 sg b, Int.mul_assoc d0 x T1, Int.mul_comm x T1]
    rw [k1, k2, Int.mul_sub]; omega
  obtain ⟨v, hv⟩ : ∃ v, n0 * T0 + d0 * (sg * r0) = 2147483647 * v := by
    refine ⟨q * T0 + d0 * sg * a, ?_⟩
    have k1 : n0 * T0 = 2147483647 * (q * T0) + d0 * x * T0 := by rw [← Int.mul_assoc, ← hq, Int.sub_mul]; omega
    have k2 : d0 * (sg * r0) = 2147483647 * (d0 * sg * a) - d0 * x * T0 := by
      have : r0 = 2147483647 * a - sg * T0 * x := by omega
      rw [this, Int.mul_sub, Int.mul_sub]
      have e : sg * (sg * T0 * x) = T0 * x := by rw [← Int.mul_assoc, ← Int.mul_assoc, ss, Int.one_mul]
      rw [e, Int.mul_left_comm sg, Int.mul_left_comm d0, Int.mul_assoc d0 sg a, Int.mul_assoc d0 x T0, Int.mul_comm x T0]
    rw [k1, k2, Int.mul_add]; omega
  have hn : n0 = r0 * u + r1 * v := by
    have l : n0 * (r0 * T1 + r1 * T0) = r0 * (n0 * T1 - d0 * (sg * r1)) + r1 * (n0 * T0 + d0 * (sg * r0)) := by
      rw [Int.mul_add, Int.mul_sub, Int.mul_add, Int.mul_left_comm n0 r0, Int.mul_left_comm n0 r1]
      have : r0 * (d0 * (sg * r1)) = r1 * (d0 * (sg * r0)) := by
        rw [← Int.mul_assoc d0, ← Int.mul_assoc d0, Int.mul_left_comm r0, Int.mul_left_comm r1, Int.mul_comm r0 r1]
      omega
    rw [hd, hu, hv, Int.mul_left_comm r0, Int.mul_left_comm r1, ← Int.mul_add, Int.mul_comm] at l
    exact Int.eq_of_mul_eq_mul_left (by decide) l
  have hdd : sg * d0 = T1 * v - T0 * u := by
    have l : sg * d0 * (r0 * T1 + r1 * T0) = T1 * (n0 * T0 + d0 * (sg * r0)) - T0 * (n0 * T1 - d0 * (sg * r1)) := by
      rw [Int.mul_add, Int.mul_add, Int.mul_sub]
      have k1 : T1 * (n0 * T0) = T0 * (n0 * T1) := by rw [Int.mul_left_comm, Int.mul_comm T1 T0, ← Int.mul_left_comm]
      have k2 : sg * d0 * (r0 * T1) = T1 * (d0 * (sg * r0)) := by rw [← Int.mul_assoc, Int.mul_comm, Int.mul_comm sg d0, Int.mul_assoc d0]
      have k3 : sg * d0 * (r1 * T0) = T0 * (d0 * (sg * r1)) := by rw [← Int.mul_assoc, Int.mul_comm, Int.mul_comm sg d0, Int.mul_assoc d0]
      omega
    rw [hd, hu, hv, Int.mul_left_comm T1, Int.mul_left_comm T0, ← Int.mul_sub, Int.mul_comm] at l
    exact Int.eq_of_mul_eq_mul_left (by decide) l
  have far : T1 ≤ d0 → -2147483647 < 2147483647 * u ∧ 2147483647 * u < 2147483647 := by
    intro hh
    rw [← hu]
    have b1 : n0 * T1 ≤ 32767 * 32767 := Int.le_trans (Int.mul_le_mul_of_nonneg_right n2 (by omega)) (Int.mul_le_mul_of_nonneg_left (by omega) (by decide))
    have b2 : (-32767) * 32767 ≤ n0 * T1 := Int.le_trans (Int.mul_le_mul_of_nonpos_left (by decide) (show T1 ≤ 32767 by omega)) (Int.mul_le_mul_of_nonneg_right n1 (by omega))
    have b3 : d0 * r1 ≤ 32767 * 32767 := Int.mul_le_mul d2 c q1 (by decide)
    have b4 : 0 ≤ d0 * r1 := Int.mul_nonneg (by omega) q1
    have b5 : d0 * (sg * r1) = sg * (d0 * r1) := Int.mul_left_comm ..
    rw [b5]
    rcases hs with rfl | rfl <;> omega
  have u0 : u = 0 := by
    rcases Int.lt_trichotomy u 0 with hc | hc | hc
    · exfalso
      rcases Int.lt_or_le 0 v with hw | hw
      · have : T1 ≤ d0 := by
          have b1 : T1 * 1 ≤ T1 * v := Int.mul_le_mul_of_nonneg_left (by omega) (by omega)
          have b2 : T0 * u ≤ 0 := Int.mul_nonpos_of_nonneg_of_nonpos p0 (by omega)
          rcases hs with rfl | rfl <;> omega
        have := far this
        omega
      · have b1 : r0 * u ≤ r0 * (-1) := Int.mul_le_mul_of_nonneg_left (by omega) (by omega)
        have b2 : r1 * v ≤ 0 := Int.mul_nonpos_of_nonneg_of_nonpos q1 hw
        omega
    · exact hc
    · exfalso
      rcases Int.lt_or_le v 0 with hw | hw
      · have : T1 ≤ d0 := by
          have b1 : T1 * v ≤ T1 * (-1) := Int.mul_le_mul_of_nonneg_left (by omega) (by omega)
          have b2 : 0 ≤ T0 * u := Int.mul_nonneg p0 (by omega)
          rcases hs with rfl | rfl <;> omega
        have := far this
        omega
      · have b1 : r0 * 1 ≤ r0 * u := Int.mul_le_mul_of_nonneg_left (by omega) (by omega)
        have b2 : 0 ≤ r1 * v := Int.mul_nonneg q1 hw
        omega
  subst u0
  rw [Int.mul_zero, Int.zero_add] at hn
  rw [Int.mul_zero, Int.sub_zero] at hdd
  obtain ⟨w, hw⟩ : ∃ w, w = sg * v := ⟨_, rfl⟩
  have hd0 : d0 = T1 * w := by
    rw [hw, Int.mul_left_comm, ← hdd, ← Int.mul_assoc, ss, Int.one_mul]
  have hn0 : n0 = sg * r1 * w := by
    rw [hw, hn, Int.mul_assoc, Int.mul_left_comm r1, ← Int.mul_assoc sg sg, ss, Int.one_mul]
  have w1 : 1 ≤ w := by
    rcases Int.lt_or_le w 1 with hc | hc
    · have : T1 * w ≤ 0 := Int.mul_nonpos_of_nonneg_of_nonpos (by omega) (by omega)
      omega
    · exact hc
  have t1d : T1 * 1 ≤ T1 * w := Int.mul_le_mul_of_nonneg_left w1 (by omega)
  have gg : Good x (sg * r1) T1 := by
    refine ⟨⟨sg * b, ?_⟩, ?_, ?_, p1, by omega⟩
    · rw [Int.mul_left_comm, ← hb, Int.mul_sub, ← Int.mul_assoc sg, ← Int.mul_assoc sg, ss, Int.one_mul]
    · rcases hs with rfl | rfl <;> omega
    · rcases hs with rfl | rfl <;> omega
  have w2 : w = 1 := by
    have := mn _ _ gg
    rcases Int.lt_or_le 1 w with hc | hc
    · have : T1 * 2 ≤ T1 * w := Int.mul_le_mul_of_nonneg_left (by omega) (by omega)
      omega
    · omega
  subst w2
  clear hw
  rw [Int.mul_one] at hd0 hn0
  subst hd0 hn0
  refine ⟨?_, ?_, ?_⟩
  · rcases hs with rfl | rfl
    · rw [if_neg (by omega)]; omega
    · rw [if_pos (by omega)]; omega
  · rcases hs with rfl | rfl
    · rw [if_neg (by omega)]; omega
    · rw [if_pos (by omega)]; omega
  · have en : (sg * r1).natAbs = r1.natAbs := by rcases hs with rfl | rfl <;> omega
    rw [en]
    obtain ⟨R1, rfl⟩ := Int.eq_ofNat_of_zero_le q1
    obtain ⟨R0, rfl⟩ := Int.eq_ofNat_of_zero_le (show 0 ≤ r0 by omega)
    obtain ⟨U1, rfl⟩ := Int.eq_ofNat_of_zero_le (show 0 ≤ d0 by omega)
    obtain ⟨U0, rfl⟩ := Int.eq_ofNat_of_zero_le p0
    rw [Int.natAbs_natCast, Int.natAbs_natCast]
    have hd' : R0 * U1 + R1 * U0 = 2147483647 := by
      have hz : ((R0 * U1 + R1 * U0 : Nat) : Int) = ((2147483647 : Nat) : Int) := by rw [Int.natCast_add, Int.natCast_mul, Int.natCast_mul]; exact hd
      exact Int.ofNat.inj hz
    have dv : Nat.gcd R1 U1 ∣ 2147483647 := by
      rw [← hd']
      exact Nat.dvd_add (Nat.dvd_mul_left_of_dvd (Nat.gcd_dvd_right _ _) _) (Nat.dvd_mul_right_of_dvd (Nat.gcd_dvd_left _ _) _)
    rcases Fermat.prime_m31.2 _ dv with h | h
    · exact h
    · have := Nat.le_of_dvd (by omega) (Nat.gcd_dvd_right R1 U1)
      omega
/-! ### the two answers -/
/-- What the reference answers: the least denominator. -/
theorem spec_loop : ∀ (m : Nat) (x y d : Int), 0 ≤ x → x < 2147483647 → 0 ≤ y → y < 2147483647 → d + m = 32768 → 1 ≤ d → (∃ q, y - (d - 1) * x = 2147483647 * q) → (∀ n e, Good x n e → d ≤ e) →
    (∃ n e, spec_ToFrac.l0 (2 * m + 1) x y d = some (n, e, true) ∧ Good x n e ∧ ∀ n' e', Good x n' e' → e ≤ e') ∨ (spec_ToFrac.l0 (2 * m + 1) x y d = some (0, 0, false) ∧ ∀ n e, ¬ Good x n e) := by
  intro m
  induction m with
  | zero =>
    intro x y d _ _ _ _ hd _ _ mn
    right
    simp only [spec_ToFrac.l0]
    rw [if_neg (by omega)]
    refine ⟨rfl, fun n e g => ?_⟩
    have := mn n e g
    obtain ⟨_, _, _, _, g5⟩ := g
    omega
  | succ m ih =>
    intro x y d x0 x1 y0 y1 hd d1 hq mn
    have go : ∀ Y : Int, 0 ≤ Y → Y < 2147483647 → (∃ q, Y - d * x = 2147483647 * q) → 
        (∃ n e, spec_ToFrac.j1 (2 * m + 1 + 1) x Y d = some (n, e, true) ∧ Good x n e ∧ ∀ n' e', Good x n' e' → e ≤ e') ∨ (spec_ToFrac.j1 (2 * m + 1 + 1) x Y d = some (0, 0, false) ∧ ∀ n e, ¬ Good x n e) := by
      intro Y Y0 Y1 hY
      obtain ⟨q, hY⟩ := hY
      have nxt : (∀ n, ¬ Good x n d) → (∃ n e, spec_ToFrac.l0 (2 * m + 1) x Y (d + 1) = some (n, e, true) ∧ Good x n e ∧ ∀ n' e', Good x n' e' → e ≤ e') ∨ (spec_ToFrac.l0 (2 * m + 1) x Y (d + 1) = some (0, 0, false) ∧ ∀ n e, ¬ Good x n e) := by
        intro no
        refine ih x Y (d + 1) x0 x1 Y0 Y1 (by omega) (by omega) ⟨q, by rw [show d + 1 - 1 = d by omega]; exact hY⟩ fun n e g => ?_
        have := mn n e g
        rcases Int.lt_or_le d e with hh | hh
        · omega
        · have : e = d := by omega
          subst this
          exact absurd g (no n)
      have one : ∀ n, Good x n d → ∃ z, n - Y = 2147483647 * z := by
        intro n g
        obtain ⟨⟨z, hz⟩, _⟩ := g
        exact ⟨z - q, by rw [Int.mul_sub]; omega⟩
      simp only [spec_ToFrac.j1]
      rw [wid (x := d + 1) (by omega) (by omega), wid (x := Y - 2147483647) (by omega) (by omega)]
      by_cases c : Y > 1073741823
      · rw [if_pos c]
        by_cases c1 : Y - 2147483647 ≥ -32767
        · rw [if_pos c1, if_pos (by omega)]
          exact .inl ⟨_, _, rfl, ⟨⟨q - 1, by rw [Int.mul_sub]; omega⟩, by omega, by omega, d1, by omega⟩, mn⟩
        · rw [if_neg c1]
          refine nxt fun n g => ?_
          obtain ⟨z, hz⟩ := one n g
          obtain ⟨_, g1, g2, _⟩ := g
          omega
      · rw [if_neg c, if_pos (by omega)]
        by_cases c1 : Y ≤ 32767
        · rw [if_pos c1]
          exact .inl ⟨_, _, rfl, ⟨⟨q, hY⟩, by omega, by omega, d1, by omega⟩, mn⟩
        · rw [if_neg c1]
          refine nxt fun n g => ?_
          obtain ⟨z, hz⟩ := one n g
          obtain ⟨_, g1, g2, _⟩ := g
          omega
    have e : 2 * (m + 1) + 1 = (2 * m + 1 + 1) + 1 := by omega
    obtain ⟨q, hq⟩ := hq
    rw [Int.sub_mul, Int.one_mul] at hq
    rw [e]
    simp only [spec_ToFrac.l0]
    rw [if_pos (by omega), wid (x := y + x) (by omega) (by omega), wid (x := y + x - 2147483647) (by omega) (by omega)]
    by_cases c : y + x ≥ 2147483647
    · rw [if_pos c]
      exact go _ (by omega) (by omega) ⟨q - 1, by rw [Int.mul_sub]; omega⟩
    · rw [if_neg c]
      exact go _ (by omega) (by omega) ⟨q, by omega⟩
/-- The fraction that the last row gives. -/
def rowN (r1 t1 : Int) : Int := if t1 < 0 then -r1 else r1
def rowD (t1 : Int) : Int := if t1 < 0 then -t1 else t1
/-- What the program answers at its last row. -/
def endB (x r1 t1 : Int) : Bool := fracB (rowN r1 t1) (rowD t1) && (ofFracI (rowN r1 t1) (rowD t1) == x)
theorem fracB_iff (n d : Int) : fracB n d = true ↔ (1 ≤ d ∧ d ≤ 32767) ∧ (-32767 ≤ n ∧ n ≤ 32767) ∧ Nat.gcd n.natAbs d.natAbs = 1 := by
  unfold fracB
  rw [Bool.and_eq_true, Bool.and_eq_true, inB_iff, inB_iff]
  simp only [beq_iff_eq]
  omega
theorem d_mod (d : Int) (h1 : 1 ≤ d) (h2 : d ≤ 32767) : d % 2147483647 ≠ 0 := by omega
/-- One answer. -/
theorem same {x r0 t0 r1 t1 : Int} (x0 : 0 ≤ x) (x1 : x < 2147483647) (h : Inv x r0 t0 r1 t1) (c : r1 ≤ 32767) :
    spec_ToFrac.l0 65535 x 0 1 = some (if endB x r1 t1 = true then rowN r1 t1 else 0, if endB x r1 t1 = true then rowD t1 else 0, endB x r1 t1) := by
  rcases spec_loop 32767 x 0 1 x0 x1 (by decide) (by decide) (by decide) (by decide) ⟨0, by simp⟩ (fun n e g => g.2.2.2.1) with ⟨n, e, hs, g, mn⟩ | ⟨hs, no⟩
  · obtain ⟨en, ed, eg⟩ := lattice h c g mn
    have hb : endB x r1 t1 = true := by
      unfold endB
      have e1 : rowN r1 t1 = n := en.symm
      have e2 : rowD t1 = e := ed.symm
      rw [e1, e2]
      obtain ⟨⟨q, hq⟩, n1, n2, d1, d2⟩ := g
      have fb : fracB n e = true := (fracB_iff n e).mpr ⟨⟨d1, d2⟩, ⟨n1, n2⟩, eg⟩
      rw [fb, Bool.true_and, beq_iff_eq]
      unfold ofFracI overI
      rw [if_pos fb]
      have il := inv_law e (d_mod e d1 d2)
      have en : n = e * x + 2147483647 * q := by omega
      rw [en, Int.add_mul, Int.mul_assoc 2147483647, Int.add_mul_emod_self_left, Int.mul_comm e x, Int.mul_assoc, Int.mul_comm e, ← mmr, il, Int.mul_one, Int.emod_eq_of_lt x0 x1]
    rw [hs, hb]
    simp only [if_true]
    rw [show rowN r1 t1 = n from en.symm, show rowD t1 = e from ed.symm]
  · have hb : endB x r1 t1 = false := by
      cases hb : endB x r1 t1 with
      | false => rfl
      | true =>
        exfalso
        unfold endB at hb
        rw [Bool.and_eq_true, beq_iff_eq] at hb
        obtain ⟨fb, hx⟩ := hb
        obtain ⟨⟨d1, d2⟩, ⟨n1, n2⟩, _⟩ := (fracB_iff _ _).mp fb
        unfold ofFracI overI at hx
        rw [if_pos fb] at hx
        refine no (rowN r1 t1) (rowD t1) ⟨?_, n1, n2, d1, d2⟩
        have il := inv_law (rowD t1) (d_mod _ d1 d2)
        have hm : (rowN r1 t1 - rowD t1 * x) % 2147483647 = 0 := by
          rw [← hx, Int.sub_emod, mmr, Int.mul_left_comm, Int.mul_comm (rowD t1), ← mmr, il, Int.mul_one, Int.sub_self]; rfl
        exact ⟨_, (Int.mul_ediv_cancel' (Int.dvd_of_emod_eq_zero hm)).symm⟩
    rw [hs, hb]
    simp
end Go.Proofs.Ytkbbgjoohffooaa.FracP
