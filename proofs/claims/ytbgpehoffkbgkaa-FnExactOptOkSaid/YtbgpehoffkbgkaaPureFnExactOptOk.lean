/- laws.FnExactOptOk: the program's OptOk returns what the reference's returns, for every optimiser's state. No condition. -/
import Derived.Test.YtbgpehoffkbgkaaPFnExactOptOkx4
import Derived.Test.YtbgpehoffkbgkaaAid
import Derived.Test.YtbgpehoffkbgkaaLoop
namespace Go.Proofs.Ytbgpehoffkbgkaa.Pure
open Go.RowKit Go.Proofs.Ytbgpehoffkbgkaa.PFnExactOptOk Go.Proofs.YtbgpehoffkbgkaaW.PrintWords Go.Proofs.YtbgpehoffkbgkaaW.PrintLast Go.Proofs.YtbgpehoffkbgkaaW.PrintMore Go.Proofs.Ytbgpehoffkbgkaa.Aid
set_option linter.unusedVariables false
set_option linter.unusedSimpArgs false
def inB (a b c : Int) : Bool := decide (b ≤ a) && decide (a ≤ c)
theorem inB_iff (a b c : Int) : inB a b c = true ↔ b ≤ a ∧ a ≤ c := by unfold inB; simp
theorem inB_not (a b c : Int) : inB a b c = false ↔ ¬ (b ≤ a ∧ a ≤ c) := by rw [← inB_iff]; simp
theorem in_body (a b c : Int) : (if a ≥ b then (some (decide (a ≤ c))) else (some false)) = some (inB a b c) := by
  unfold inB
  by_cases h : b ≤ a
  · rw [if_pos h]; simp [h]
  · rw [if_neg h]; simp [h]
theorem ite_and (b c : Bool) : (if b = true then some c else some false) = some (b && c) := by cases b <;> rfl
theorem ite_same {α : Type} (b : Bool) (x : α) : (if b = true then x else x) = x := by cases b <;> rfl
theorem sIn (a b c : Int) : spec_l5In.f a b c = some (inB a b c) := in_body a b c
theorem iIn (a b c : Int) : impl_within.f a b c = some (inB a b c) := in_body a b c
theorem rd_nat (l : List Int) (i : Nat) : rd l (i : Int) = l.getD i 0 := by unfold rd; rw [Int.toNat_natCast]
theorem toIntS_loop (l : List Int) (hl : l.length ≤ 1048576) : ∀ (d i k : Nat) (y : List Int), i + d = l.length → d < k → y.length = l.length → (∀ j, j < i → y.getD j 0 = l.getD j 0) → laws_toIntS.l0 k l y i = some l := by
  intro d
  induction d with
  | zero =>
    intro i k y h hk hy hj
    obtain ⟨k, rfl⟩ : ∃ m, k = m + 1 := ⟨k - 1, by omega⟩
    simp only [laws_toIntS.l0]
    rw [if_neg (by omega)]
    congr 1
    refine List.ext_getElem hy fun j h1 h2 => ?_
    have := hj j (by omega)
    rwa [Loop.getD_lt _ _ _ h1, Loop.getD_lt _ _ _ h2] at this
  | succ d ih =>
    intro i k y h hk hy hj
    obtain ⟨k, rfl⟩ : ∃ m, k = m + 1 := ⟨k - 1, by omega⟩
    simp only [laws_toIntS.l0]
    rw [if_pos (by omega), if_pos (by omega), if_pos (by omega), Loop.wsucc i (by omega), Int.toNat_natCast, rd_nat]
    refine ih (i + 1) k _ (by omega) (by omega) (by simpa using hy) fun j h1 => ?_
    by_cases e : j = i
    · rw [e, Loop.getD_set_eq _ _ _ _ (by omega)]
    · rw [Loop.getD_set_ne _ _ _ _ _ e]; exact hj j (by omega)
theorem toIntS_ok (l : List Int) (hl : l.length ≤ 1048576) (k : Nat) (hk : l.length < k) : laws_toIntS.f k l = some l := by
  unfold laws_toIntS.f
  rw [if_pos (by omega), Int.toNat_natCast, if_pos (by omega)]
  exact toIntS_loop l hl l.length 0 k _ (by omega) hk (by simp) (by intro j h; omega)
theorem eqIntS_loop (l : List Int) (hl : l.length ≤ 1048576) : ∀ (d i k : Nat), i + d = l.length → d < k → laws_eqIntS.l0 k l l i = some true := by
  intro d
  induction d with
  | zero =>
    intro i k h hk
    obtain ⟨k, rfl⟩ : ∃ m, k = m + 1 := ⟨k - 1, by omega⟩
    simp only [laws_eqIntS.l0]
    rw [if_neg (by omega)]
  | succ d ih =>
    intro i k h hk
    obtain ⟨k, rfl⟩ : ∃ m, k = m + 1 := ⟨k - 1, by omega⟩
    simp only [laws_eqIntS.l0]
    rw [if_pos (by omega), if_pos (by omega), if_pos (by omega), if_pos trivial, Loop.wsucc i (by omega)]
    exact ih (i + 1) k (by omega) (by omega)
theorem eqIntS_ok (l : List Int) (hl : l.length ≤ 1048576) (k : Nat) (hk : l.length < k) : laws_eqIntS.f k l l = some true := by
  unfold laws_eqIntS.f
  rw [if_pos rfl]
  exact eqIntS_loop l hl l.length 0 k (by omega) hk
theorem szI (l : List Int) (a : Int) (hl : l.length ≤ maxLen) (h0 : 0 ≤ a) (h1 : a ≤ 1048576) : laws_szIntS.f l a = some (if a < (l.length : Int) then -1 else a - l.length) := by
  have hm : maxLen = 9223372036854775807 := rfl
  unfold laws_szIntS.f
  rw [wid (by omega) (by omega)]
  by_cases c : a < (l.length : Int)
  · rw [if_pos c, if_pos (by omega)]
  · rw [if_neg c, if_neg (by omega)]
def betP (lo hi : Int) (l : List Int) (i : Nat) : Bool := inB (l.getD i 0) lo hi
theorem iAllW (l : List Int) (lo hi : Int) (hl : l.length ≤ 1048576) (k : Nat) (hk : l.length < k) : impl_allWithin.f k l lo hi = some (Loop.allB (betP lo hi l) l.length 0) := by
  have h := Loop.all_ix (fun k i => impl_allWithin.l0 k lo hi l l.length i) l.length 1 0 (betP lo hi l) (some false) (some true)
    (by intro k i _ hi
        simp only [impl_allWithin.l0, iIn, Option.bind_some]
        rw [if_pos (show (i : Int) < (l.length : Int) by omega), if_pos (show 0 ≤ (i : Int) by omega), if_pos (show (i : Int) < (l.length : Int) by omega), rd_nat, Loop.wsucc i (by omega)]
        rfl)
    (by intro k _; simp only [impl_allWithin.l0]; rw [if_neg (by omega)])
    l.length 0 k (by omega) (by omega)
  unfold impl_allWithin.f
  rw [show impl_allWithin.l0 k lo hi l l.length 0 = _ from h]
  cases Loop.allB (betP lo hi l) l.length 0 <;> rfl
/-- The powers of two up to 65536. -/
def twoB (f : Int) : Bool := inB f 1 65536 && (Go.bits .and .i64 f (f - 1) == 0)
/-- Is it one of 2^i, 2^(i+1), .. (n of them)? -/
def someTwo (f : Int) : Nat → Nat → Bool
  | 0, _ => false
  | n + 1, i => (f == 2 ^ i) || someTwo f n (i + 1)
theorem someTwo_iff (f : Int) : ∀ n i, someTwo f n i = true ↔ ∃ j, i ≤ j ∧ j < i + n ∧ f = 2 ^ j := by
  intro n
  induction n with
  | zero => intro i; simp [someTwo]; intro j h1 h2; omega
  | succ n ih =>
    intro i
    simp only [someTwo, Bool.or_eq_true, ih, beq_iff_eq]
    constructor
    · rintro (h | ⟨j, h1, h2, h3⟩)
      · exact ⟨i, by omega, by omega, h⟩
      · exact ⟨j, by omega, by omega, h3⟩
    · rintro ⟨j, h1, h2, h3⟩
      by_cases e : j = i
      · left; rw [← e]; exact h3
      · right; exact ⟨j, by omega, by omega, h3⟩
theorem pow16 {j : Nat} (h : j ≤ 16) : (2 : Int) ^ j ≤ 65536 := by
  have h1 := Int.ofNat_le.2 (Nat.pow_le_pow_right (show 0 < 2 by decide) h)
  have e : ((2 ^ 16 : Nat) : Int) = 65536 := rfl
  rw [e, Int.natCast_pow] at h1
  exact h1
theorem sTwoLoop (l0 l1 l2 : List Int) (a b c : Int) : ∀ (n i k : Nat), i + n = 17 → n < k → spec_OptOk.l1 k (2 ^ i) l0 l1 l2 a b c = some (someTwo b n i) := by
  intro n
  induction n with
  | zero =>
    intro i k h hk
    obtain ⟨k, rfl⟩ : ∃ m, k = m + 1 := ⟨k - 1, by omega⟩
    obtain rfl : i = 17 := by omega
    simp only [spec_OptOk.l1]
    rw [if_neg (by decide)]; rfl
  | succ n ih =>
    intro i k h hk
    obtain ⟨k, rfl⟩ : ∃ m, k = m + 1 := ⟨k - 1, by omega⟩
    simp only [spec_OptOk.l1]
    have hp : (2 : Int) ^ i ≤ 65536 := pow16 (by omega)
    have h0 : (0 : Int) < 2 ^ i := Int.pow_pos (by decide)
    rw [if_pos hp, wid (by omega) (by omega), ← Int.pow_succ, ih (i + 1) k (by omega) (by omega)]
    by_cases e : (2 : Int) ^ i = b
    · rw [if_pos e]; simp [someTwo, ← e]
    · have e' : (b == 2 ^ i) = false := beq_eq_false_iff_ne.2 (fun h => e h.symm)
      rw [if_neg e]; simp only [someTwo, e', Bool.false_or]
/-- A Nat of at most 65536 and its predecessor have no bit in common just where it is 0 or a power of two: tried in the kernel. -/
def tryTwo : Nat → Nat → Bool
  | 0, n => ((n &&& (n - 1)) == 0) == (n == 0 || (2 ^ n.log2 == n))
  | k + 1, n => tryTwo k n && tryTwo k (n + 2 ^ k)
theorem tryTwo_of : ∀ k n, tryTwo k n = true → ∀ m, n ≤ m → m < n + 2 ^ k → (((m &&& (m - 1)) == 0) == (m == 0 || (2 ^ m.log2 == m))) = true := by
  intro k
  induction k with
  | zero =>
    intro n h m h1 h2
    have e : (2 : Nat) ^ 0 = 1 := rfl
    obtain rfl : m = n := by omega
    exact h
  | succ k ih =>
    intro n h m h1 h2
    have h' : tryTwo k n = true ∧ tryTwo k (n + 2 ^ k) = true := by simpa [tryTwo] using h
    have hp : 2 ^ (k + 1) = 2 ^ k + 2 ^ k := by rw [Nat.pow_succ]; omega
    by_cases c : m < n + 2 ^ k
    · exact ih n h'.1 m h1 c
    · exact ih _ h'.2 m (by omega) (by omega)
theorem tryTwo_all : tryTwo 17 0 = true := by decide +kernel
theorem two_same (f : Int) (h0 : 1 ≤ f) (h1 : f ≤ 65536) : (Go.bits .and .i64 f (f - 1) == 0) = someTwo f 17 0 := by
  obtain ⟨n, rfl⟩ := Int.eq_ofNat_of_zero_le (show 0 ≤ f by omega)
  have e1 : ((n : Int) - 1) = ((n - 1 : Nat) : Int) := by omega
  have hb := (bits_nat .i64 63 (by decide) i64_wrap_nn n (n - 1) (by omega) (by omega)).1
  rw [e1, hb]
  have p17 : (2 : Nat) ^ 17 = 131072 := by decide
  have t := tryTwo_of 17 0 tryTwo_all n (by omega) (by omega)
  have hn : (n == 0) = false := by rw [beq_eq_false_iff_ne]; omega
  rw [hn, Bool.false_or] at t
  have c : ((((n &&& (n - 1) : Nat)) : Int) == 0) = ((n &&& (n - 1)) == 0) := by
    rw [Bool.eq_iff_iff, beq_iff_eq, beq_iff_eq]; omega
  rw [c, Bool.eq_iff_iff, someTwo_iff]
  have t' : ((n &&& (n - 1)) == 0) = (2 ^ n.log2 == n) := by simpa using t
  rw [t', beq_iff_eq]
  constructor
  · intro h
    refine ⟨n.log2, by omega, ?_, ?_⟩
    · rcases Nat.lt_or_ge n.log2 17 with g | g
      · omega
      · have := Nat.pow_le_pow_right (show 0 < 2 by decide) g
        omega
    · have : ((2 ^ n.log2 : Nat) : Int) = (n : Int) := by rw [h]
      rw [Int.natCast_pow] at this; exact this.symm
  · rintro ⟨j, _, _, h⟩
    have hj : n = 2 ^ j := by
      have : (n : Int) = ((2 ^ j : Nat) : Int) := by rw [Int.natCast_pow]; exact h
      exact_mod_cast this
    rw [hj, Nat.log2_two_pow]
def optP (l0 l1 l2 : List Int) (i : Nat) : Bool := betP (-68719476736) 68719476736 l0 i && (betP (-4294967296) 4294967296 l1 i && betP 0 17179869184 l2 i)
theorem sOptLoop (l0 l1 l2 : List Int) (a b c : Int) (hl : l0.length ≤ 1048576) (h1 : l1.length = l0.length) (h2 : l2.length = l0.length) (k : Nat) (hk : l0.length + 19 < k) :
    spec_OptOk.l0 k 0 l0 l1 l2 a b c = some (Loop.allB (optP l0 l1 l2) l0.length 0 && someTwo b 17 0) := by
  have h := Loop.all_ix (fun k i => spec_OptOk.l0 k i l0 l1 l2 a b c) l0.length 1 18 (optP l0 l1 l2) (some false) (some (someTwo b 17 0))
    (by intro k i _ hi
        simp only [spec_OptOk.l0, sIn, Option.bind_some]
        rw [if_pos (show (i : Int) < (l0.length : Int) by omega), if_pos (show 0 ≤ (i : Int) by omega), if_pos (show (i : Int) < (l1.length : Int) by omega), if_pos (show (i : Int) < (l2.length : Int) by omega), rd_nat, rd_nat, rd_nat, Loop.wsucc i (by omega)]
        unfold optP betP
        cases inB (l0.getD i 0) (-68719476736) 68719476736 <;> cases inB (l1.getD i 0) (-4294967296) 4294967296 <;> cases inB (l2.getD i 0) 0 17179869184 <;> rfl)
    (by intro k hk
        simp only [spec_OptOk.l0]; rw [if_neg (by omega)]
        exact sTwoLoop l0 l1 l2 a b c 17 0 k (by omega) (by omega))
    l0.length 0 k (by omega) (by omega)
  rw [show spec_OptOk.l0 k 0 l0 l1 l2 a b c = _ from h]
  cases Loop.allB (optP l0 l1 l2) l0.length 0 <;> rfl
theorem all_and (p q : Nat → Bool) : ∀ d i, Loop.allB (fun i => p i && q i) d i = (Loop.allB p d i && Loop.allB q d i) := by
  intro d
  induction d with
  | zero => intro i; rfl
  | succ d ih =>
    intro i
    simp only [Loop.allB, ih]
    cases p i <;> cases q i <;> cases Loop.allB p d (i + 1) <;> cases Loop.allB q d (i + 1) <;> rfl
def optB (l0 l1 l2 : List Int) (a b c : Int) : Bool := decide ((l0.length : Int) ≤ 4096) && (decide ((l1.length : Int) = l0.length) && (decide ((l2.length : Int) = l0.length) && (inB a 0 1000000 && (inB c 0 1000000 && (Loop.allB (optP l0 l1 l2) l0.length 0 && someTwo b 17 0)))))
theorem sOpt (l0 l1 l2 : List Int) (a b c : Int) (hl : l0.length ≤ 1048576) (k : Nat) (hk : l0.length + 21 < k) : spec_OptOk.f k l0 l1 l2 a b c = some (optB l0 l1 l2 a b c) := by
  obtain ⟨k, rfl⟩ : ∃ m, k = m + 1 := ⟨k - 1, by omega⟩
  unfold spec_OptOk.f optB
  simp only [sIn, Option.bind_some, spec_OptOk.j0, if_true]
  by_cases c0 : (l0.length : Int) > 4096
  · rw [if_pos c0, decide_eq_false (show ¬ (l0.length : Int) ≤ 4096 by omega)]; rfl
  · rw [if_neg c0, decide_eq_true (show (l0.length : Int) ≤ 4096 by omega)]
    by_cases c1 : (l1.length : Int) = l0.length
    · rw [if_pos c1, decide_eq_true c1]
      by_cases c2 : (l2.length : Int) = l0.length
      · rw [if_pos c2, decide_eq_true c2, sOptLoop l0 l1 l2 a b c hl (by omega) (by omega) k (by omega)]
        cases inB a 0 1000000 <;> cases inB c 0 1000000 <;> rfl
      · rw [if_neg c2, decide_eq_false c2]; rfl
    · rw [if_neg c1, decide_eq_false c1]; rfl
theorem iOpt (l0 l1 l2 : List Int) (a b c : Int) (hl0 : l0.length ≤ 1048576) (hl1 : l1.length ≤ 1048576) (hl2 : l2.length ≤ 1048576) (hb : (Lit.int .i64 b).wf = true) (k : Nat) (hk0 : l0.length < k) (hk1 : l1.length < k) (hk2 : l2.length < k) : impl_OptOk.f k l0 l1 l2 a b c = some (optB l0 l1 l2 a b c) := by
  unfold impl_OptOk.f optB
  rw [iAllW l0 _ _ hl0 k hk0, iAllW l1 _ _ hl1 k hk1, iAllW l2 _ _ hl2 k hk2]
  simp only [iIn, Option.bind_some]
  by_cases c0 : (l0.length : Int) ≤ 4096
  · rw [if_pos c0, decide_eq_true c0]
    by_cases c1 : (l1.length : Int) = l0.length
    · rw [if_pos c1, decide_eq_true c1]
      by_cases c2 : (l2.length : Int) = l0.length
      · rw [if_pos c2, decide_eq_true c2]
        have e1 : l1.length = l0.length := by omega
        have e2 : l2.length = l0.length := by omega
        rw [e1, e2]
        have ea : Loop.allB (optP l0 l1 l2) l0.length 0 = (Loop.allB (betP (-68719476736) 68719476736 l0) l0.length 0 && (Loop.allB (betP (-4294967296) 4294967296 l1) l0.length 0 && Loop.allB (betP 0 17179869184 l2) l0.length 0)) := by
          have h1 := all_and (betP (-68719476736) 68719476736 l0) (fun i => betP (-4294967296) 4294967296 l1 i && betP 0 17179869184 l2 i) l0.length 0
          have h2 := all_and (betP (-4294967296) 4294967296 l1) (betP 0 17179869184 l2) l0.length 0
          exact (show Loop.allB (optP l0 l1 l2) l0.length 0 = _ from h1).trans (by rw [h2])
        rw [ea]
        by_cases g : inB b 1 65536 = true
        · have gb := (inB_iff _ _ _).1 g
          have et := two_same b gb.1 gb.2
          rw [wid (x := b - 1) (by omega) (by omega), ← et]
          have ed : ∀ y : Bool, (if Go.bits .and .i64 b (b - 1) = 0 then some y else some false) = some ((Go.bits .and .i64 b (b - 1) == 0) && y) := by
            intro y
            by_cases z : Go.bits .and .i64 b (b - 1) = 0
            · rw [if_pos z, z]; rfl
            · rw [if_neg z, beq_eq_false_iff_ne.2 z]; rfl
          rw [ed, g]
          cases Loop.allB (betP (-68719476736) 68719476736 l0) l0.length 0 <;> cases Loop.allB (betP (-4294967296) 4294967296 l1) l0.length 0 <;> cases Loop.allB (betP 0 17179869184 l2) l0.length 0 <;> cases inB a 0 1000000 <;> cases inB c 0 1000000 <;> cases (Go.bits .and .i64 b (b - 1) == 0) <;> rfl
        · have et : someTwo b 17 0 = false := by
            rw [Bool.eq_false_iff]; intro h
            obtain ⟨j, _, hj, rfl⟩ := (someTwo_iff b 17 0).1 h
            apply g; rw [inB_iff]
            have h0 : (0 : Int) < 2 ^ j := Int.pow_pos (by decide)
            have h1 : (2 : Int) ^ j ≤ 65536 := pow16 (by omega)
            omega
          rw [Bool.not_eq_true] at g
          rw [et, g]
          cases Loop.allB (betP (-68719476736) 68719476736 l0) l0.length 0 <;> cases Loop.allB (betP (-4294967296) 4294967296 l1) l0.length 0 <;> cases Loop.allB (betP 0 17179869184 l2) l0.length 0 <;> cases inB a 0 1000000 <;> cases inB c 0 1000000 <;> rfl
      · rw [if_neg c2, decide_eq_false c2]; rfl
    · rw [if_neg c1, decide_eq_false c1]; rfl
  · rw [if_neg c0, decide_eq_false c0]; rfl
theorem FnExactOptOk (l0 l1 l2 : List Int) (a b c : Int) (h0 : l0.length ≤ maxLen) (_ : ∀ x ∈ l0, (Lit.int .i64 x).wf = true) (h1 : l1.length ≤ maxLen) (_ : ∀ x ∈ l1, (Lit.int .i64 x).wf = true) (h2 : l2.length ≤ maxLen) (_ : ∀ x ∈ l2, (Lit.int .i64 x).wf = true) (_ : (Lit.int .i64 a).wf = true) (hb : (Lit.int .i64 b).wf = true) (_ : (Lit.int .i64 c).wf = true) : ∃ k, laws_FnExactOptOk.f k l0 l1 l2 a b c = some true := by
  refine ⟨l0.length + l1.length + l2.length + 30, ?_⟩
  unfold laws_FnExactOptOk.f laws_szOpt.f
  rw [szI l0 _ h0 (by decide) (by decide)]; simp only [Option.bind_some]
  by_cases c0 : (1048576 : Int) < l0.length
  · rw [if_pos c0]; rfl
  · rw [if_neg c0, if_neg (by omega), szI l1 _ h1 (by omega) (by omega)]; simp only [Option.bind_some]
    by_cases c1 : (1048576 : Int) - l0.length < l1.length
    · rw [if_pos c1]; rfl
    · rw [if_neg c1, if_neg (by omega), szI l2 _ h2 (by omega) (by omega)]; simp only [Option.bind_some]
      by_cases c2 : (1048576 : Int) - l0.length - l1.length < l2.length
      · rw [if_pos c2]; rfl
      · rw [if_neg c2, if_neg (by omega)]; simp only [Option.bind_some]
        rw [if_neg (by omega)]
        unfold laws_toOpt.f laws_eqOpt.f
        rw [toIntS_ok l0 (by omega) _ (by omega), toIntS_ok l1 (by omega) _ (by omega), toIntS_ok l2 (by omega) _ (by omega)]; simp only [Option.bind_some]
        rw [sOpt l0 l1 l2 a b c (by omega) _ (by omega), iOpt l0 l1 l2 a b c (by omega) (by omega) (by omega) hb _ (by omega) (by omega) (by omega),
          eqIntS_ok l0 (by omega) _ (by omega), eqIntS_ok l1 (by omega) _ (by omega), eqIntS_ok l2 (by omega) _ (by omega)]
        simp

end Go.Proofs.Ytbgpehoffkbgkaa.Pure
