/- Fermat's little theorem in plain Lean, and that 2147483647 is prime (by trying all divisors in the kernel). No condition. -/
namespace Go.Proofs.Ytkbbgjoohffooaa.Fermat

def IsPrime (p : Nat) : Prop := 2 ≤ p ∧ ∀ d, d ∣ p → d = 1 ∨ d = p

def choose : Nat → Nat → Nat
  | _, 0 => 1
  | 0, _ + 1 => 0
  | n + 1, k + 1 => choose n k + choose n (k + 1)

theorem choose_zero (n : Nat) : choose n 0 = 1 := by cases n <;> rfl

theorem choose_mul : ∀ n k, (k + 1) * choose (n + 1) (k + 1) = (n + 1) * choose n k := by
  intro n
  induction n with
  | zero =>
    intro k
    cases k with
    | zero => rfl
    | succ k => simp [choose]
  | succ n ih =>
    intro k
    cases k with
    | zero =>
      have h : choose (n + 1) 1 = n + 1 := by
        have := ih 0
        rw [choose_zero] at this
        simpa using this
      show (0 + 1) * (choose (n + 1) 0 + choose (n + 1) 1) = (n + 1 + 1) * choose (n + 1) 0
      rw [choose_zero, h]; omega
    | succ k =>
      have h1 := ih (k + 1)
      have h0 := ih k
      show (k + 1 + 1) * (choose (n + 1) (k + 1) + choose (n + 1) (k + 1 + 1)) = (n + 1 + 1) * choose (n + 1) (k + 1)
      have e : choose (n + 1) (k + 1) = choose n k + choose n (k + 1) := rfl
      have e1 : (k + 1 + 1) * choose (n + 1) (k + 1) = (k + 1) * choose (n + 1) (k + 1) + choose (n + 1) (k + 1) := Nat.succ_mul _ _
      have e2 : (n + 1 + 1) * choose (n + 1) (k + 1) = (n + 1) * choose (n + 1) (k + 1) + choose (n + 1) (k + 1) := Nat.succ_mul _ _
      have e3 : (n + 1) * choose (n + 1) (k + 1) = (n + 1) * choose n k + (n + 1) * choose n (k + 1) := by rw [e, Nat.mul_add]
      rw [Nat.mul_add, h1, e1, e2, h0, e3]; omega

theorem choose_big : ∀ n k, n < k → choose n k = 0 := by
  intro n
  induction n with
  | zero => intro k h; obtain ⟨j, rfl⟩ : ∃ j, k = j + 1 := ⟨k - 1, by omega⟩; rfl
  | succ n ih =>
    intro k h
    obtain ⟨j, rfl⟩ : ∃ j, k = j + 1 := ⟨k - 1, by omega⟩
    show choose n j + choose n (j + 1) = 0
    rw [ih j (by omega), ih (j + 1) (by omega)]

theorem choose_self : ∀ n, choose n n = 1 := by
  intro n
  induction n with
  | zero => rfl
  | succ n ih =>
    show choose n n + choose n (n + 1) = 1
    rw [ih, choose_big n (n + 1) (by omega)]

def bsum (a n : Nat) : Nat → Nat
  | 0 => 0
  | m + 1 => bsum a n m + choose n m * a ^ m

theorem bsum_step (a n : Nat) : ∀ m, bsum a (n + 1) (m + 1) = bsum a n (m + 1) + a * bsum a n m := by
  intro m
  induction m with
  | zero => simp [bsum, choose_zero]
  | succ m ih =>
    show bsum a (n + 1) (m + 1) + (choose n m + choose n (m + 1)) * a ^ (m + 1) = bsum a n (m + 1) + choose n (m + 1) * a ^ (m + 1) + a * (bsum a n m + choose n m * a ^ m)
    rw [ih, Nat.add_mul, Nat.mul_add]
    have e : a * (choose n m * a ^ m) = choose n m * a ^ (m + 1) := by
      rw [Nat.pow_succ, Nat.mul_left_comm, Nat.mul_comm a]
    rw [e]; omega

theorem binom (a : Nat) : ∀ n, (a + 1) ^ n = bsum a n (n + 1) := by
  intro n
  induction n with
  | zero => simp [bsum, choose]
  | succ n ih =>
    have e : bsum a n (n + 1 + 1) = bsum a n (n + 1) := by
      show bsum a n (n + 1) + choose n (n + 1) * a ^ (n + 1) = _
      rw [choose_big n (n + 1) (by omega)]; simp
    rw [bsum_step, e, Nat.pow_succ, ih, Nat.mul_add, Nat.mul_one, Nat.mul_comm]; omega

theorem coprime_of {p k : Nat} (hp : IsPrime p) (h0 : 0 < k) (h : k < p) : Nat.Coprime p k := by
  rcases hp.2 (Nat.gcd p k) (Nat.gcd_dvd_left p k) with e | e
  · exact e
  · have := Nat.le_of_dvd h0 (Nat.gcd_dvd_right p k)
    omega

theorem dvd_choose {p k : Nat} (hp : IsPrime p) (h : k + 1 < p) : p ∣ choose p (k + 1) := by
  obtain ⟨n, rfl⟩ : ∃ n, p = n + 1 := ⟨p - 1, by omega⟩
  have e := choose_mul n k
  have d : (n + 1) ∣ (k + 1) * choose (n + 1) (k + 1) := ⟨choose n k, e⟩
  exact (coprime_of hp (by omega) h).dvd_of_dvd_mul_left d

theorem bsum_mod {p : Nat} (hp : IsPrime p) (a : Nat) : ∀ m, m < p → bsum a p (m + 1) % p = 1 := by
  have h2 := hp.1
  intro m
  induction m with
  | zero => intro _; simp [bsum, choose_zero]; exact Nat.mod_eq_of_lt (by omega)
  | succ m ih =>
    intro h
    show (bsum a p (m + 1) + choose p (m + 1) * a ^ (m + 1)) % p = 1
    obtain ⟨c, hc⟩ := dvd_choose hp h
    rw [hc, Nat.mul_assoc, Nat.add_mul_mod_self_left]
    exact ih (by omega)

theorem frob {p : Nat} (hp : IsPrime p) (a : Nat) : (a + 1) ^ p % p = (a ^ p + 1) % p := by
  have h2 := hp.1
  rw [binom]
  show (bsum a p p + choose p p * a ^ p) % p = _
  rw [choose_self, Nat.one_mul]
  have := bsum_mod hp a (p - 1) (by omega)
  rw [show p - 1 + 1 = p by omega] at this
  rw [Nat.add_mod, this, Nat.add_mod (a ^ p) 1, Nat.mod_eq_of_lt (show 1 < p by omega), Nat.add_comm]

theorem pow_p {p : Nat} (hp : IsPrime p) : ∀ a, a ^ p % p = a % p := by
  have h2 := hp.1
  intro a
  induction a with
  | zero => rw [Nat.zero_pow (by omega)]
  | succ a ih => rw [frob hp, Nat.add_mod, ih, ← Nat.add_mod]

theorem fermat {p : Nat} (hp : IsPrime p) (a : Nat) (h : a % p ≠ 0) : a ^ (p - 1) % p = 1 := by
  have h2 := hp.1
  have ha : 0 < a := by
    rcases Nat.eq_zero_or_pos a with e | e
    · subst e; simp at h
    · exact e
  have e := pow_p hp a
  have hq : 1 ≤ a ^ (p - 1) := Nat.pow_pos ha
  have e2 : a ^ p = a * a ^ (p - 1) := by
    rw [Nat.mul_comm, ← Nat.pow_succ]; congr 1; omega
  have d : p ∣ a * (a ^ (p - 1) - 1) := by
    rw [Nat.mul_sub, Nat.mul_one, ← e2]
    exact Nat.dvd_of_mod_eq_zero (Nat.sub_mod_eq_zero_of_mod_eq e)
  have cop : Nat.Coprime p a := by
    rcases hp.2 (Nat.gcd p a) (Nat.gcd_dvd_left p a) with c | c
    · exact c
    · exfalso; apply h
      have := Nat.gcd_dvd_right p a
      rw [c] at this
      exact Nat.mod_eq_zero_of_dvd this
  obtain ⟨c, hc⟩ := cop.dvd_of_dvd_mul_left d
  rw [show a ^ (p - 1) = 1 + p * c by omega, Nat.add_mul_mod_self_left]
  exact Nat.mod_eq_of_lt (by omega)

/-- No number of 2 ^ k from lo on divides 2147483647. -/
def none : Nat → Nat → Bool
  | 0, lo => (2147483647 % lo != 0)
  | k + 1, lo => none k lo && none k (lo + 2 ^ k)

theorem none_of : ∀ k lo, none k lo = true → ∀ d, lo ≤ d → d < lo + 2 ^ k → 2147483647 % d ≠ 0 := by
  intro k
  induction k with
  | zero =>
    intro lo h d h1 h2
    have e : d = lo := by
      have : (2 : Nat) ^ 0 = 1 := rfl
      omega
    subst e
    simpa [none] using h
  | succ k ih =>
    intro lo h d h1 h2
    have h' : none k lo = true ∧ none k (lo + 2 ^ k) = true := by simpa [none] using h
    have hp : 2 ^ (k + 1) = 2 ^ k + 2 ^ k := by rw [Nat.pow_succ]; omega
    by_cases c : d < lo + 2 ^ k
    · exact ih lo h'.1 d h1 c
    · exact ih _ h'.2 d (by omega) (by omega)

theorem none_all : none 16 2 = true := by decide +kernel

theorem no_small (d : Nat) (h1 : 2 ≤ d) (h2 : d ≤ 65537) : ¬ d ∣ 2147483647 := by
  intro h
  have e : 2 + 2 ^ 16 = 65538 := rfl
  exact none_of 16 2 none_all d h1 (by omega) (Nat.mod_eq_zero_of_dvd h)

theorem prime_m31 : IsPrime 2147483647 := by
  refine ⟨by decide, fun d hd => ?_⟩
  obtain ⟨e, he⟩ := hd
  by_cases c1 : d = 1
  · exact .inl c1
  by_cases c2 : e = 1
  · right; rw [he, c2, Nat.mul_one]
  exfalso
  have d0 : d ≠ 0 := by intro h; rw [h] at he; simp at he
  have e0 : e ≠ 0 := by intro h; rw [h] at he; simp at he
  by_cases c : d ≤ 65537
  · exact no_small d (by omega) c ⟨e, he⟩
  · by_cases c' : e ≤ 65537
    · exact no_small e (by omega) c' ⟨d, by rw [he, Nat.mul_comm]⟩
    · have := Nat.mul_le_mul (show 65538 ≤ d by omega) (show 65538 ≤ e by omega)
      omega
end Go.Proofs.Ytkbbgjoohffooaa.Fermat
