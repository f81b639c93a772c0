/- laws.FnExactSkip: the program's Skip returns what the reference's returns, for every feed and int. No condition. -/
import Derived.Test.YtdocahjdpikakaaPFnExactSkipx3
import Derived.Test.YtdocahjdpikakaaAid
namespace Go.Proofs.Ytdocahjdpikakaa.Pure
open Go.RowKit Go.Proofs.Ytdocahjdpikakaa.PFnExactSkip Go.Proofs.YtdocahjdpikakaaW.PrintWords Go.Proofs.YtdocahjdpikakaaW.PrintLast Go.Proofs.YtdocahjdpikakaaW.PrintMore Go.Proofs.Ytdocahjdpikakaa.Aid
set_option linter.unusedVariables false
set_option linter.unusedSimpArgs false
def inB (a b c : Int) : Bool := decide (b ≤ a) && decide (a ≤ c)
theorem inB_iff (a b c : Int) : inB a b c = true ↔ b ≤ a ∧ a ≤ c := by unfold inB; simp
theorem inB_not (a b c : Int) : inB a b c = false ↔ ¬ (b ≤ a ∧ a ≤ c) := by rw [← inB_iff]; simp
theorem in_body (a b c : Int) : (if a ≥ b then (some (decide (a ≤ c))) else (some false)) = some (inB a b c) := by
  unfold inB
  by_cases h : b ≤ a
  · rw [if_pos h]; simp [h]
  · rw [if_neg h]; simp [h]
theorem ite_and (b c : Bool) : (if b = true then some c else some false) = some (b && c) := by cases b <;> rfl
theorem ite_same {α : Type} (b : Bool) (x : α) : (if b = true then x else x) = x := by cases b <;> rfl
theorem sIn (a b c : Int) : spec_l5In.f a b c = some (inB a b c) := in_body a b c
theorem iIn (a b c : Int) : impl_within.f a b c = some (inB a b c) := in_body a b c
def stB (a : Int) : Bool := decide (0 ≤ a) && decide (a < 4294967296)
theorem stB_iff (a : Int) : stB a = true ↔ 0 ≤ a ∧ a < 4294967296 := by unfold stB; simp
theorem st_body (a : Int) : (if a ≥ 0 then (some (decide (a < 4294967296))) else (some false)) = some (stB a) := by
  unfold stB
  by_cases h : 0 ≤ a
  · rw [if_pos h]; simp [h]
  · rw [if_neg h]; simp [h]
theorem sSt (a : Int) : spec_l16State.f a = some (stB a) := st_body a
theorem iSt (a : Int) : impl_isState.f a = some (stB a) := st_body a
def feedB (a b c d e f : Int) : Bool := inB a 1 4096 && (inB b 1 a && (stB c && (inB d 0 1000000 && (inB f 1 64 && (inB e 0 (a - b) && decide (Int.tmod e b = 0))))))
theorem feed_iff (a b c d e f : Int) : feedB a b c d e f = true ↔ (1 ≤ a ∧ a ≤ 4096) ∧ (1 ≤ b ∧ b ≤ a) ∧ (0 ≤ c ∧ c < 4294967296) ∧ (0 ≤ d ∧ d ≤ 1000000) ∧ (1 ≤ f ∧ f ≤ 64) ∧ (0 ≤ e ∧ e ≤ a - b) ∧ Int.tmod e b = 0 := by
  unfold feedB
  simp only [Bool.and_eq_true, inB_iff, stB_iff, decide_eq_true_eq]
theorem sFeed (a b c d e f : Int) : spec_FeedOk.f a b c d e f = some (feedB a b c d e f) := by
  unfold spec_FeedOk.f
  simp only [Option.bind_some, sIn, sSt]
  unfold feedB
  by_cases h1 : inB a 1 4096 = true
  · by_cases h2 : inB b 1 a = true
    · have b1 := (inB_iff _ _ _).1 h1
      have b2 := (inB_iff _ _ _).1 h2
      rw [wid (x := a - b) (by omega) (by omega), if_neg (c := b = 0) (by omega)]
      simp only [ite_and]
      rfl
    · simp [h1, h2]
  · simp [h1]
theorem iFeed (a b c d e f : Int) : impl_FeedOk.f a b c d e f = some (feedB a b c d e f) := by
  unfold impl_FeedOk.f
  simp only [Option.bind_some, iIn, iSt]
  unfold feedB
  by_cases h1 : inB a 1 4096 = true
  · by_cases h2 : inB b 1 a = true
    · have b1 := (inB_iff _ _ _).1 h1
      have b2 := (inB_iff _ _ _).1 h2
      rw [wid (x := a - b) (by omega) (by omega), if_neg (c := b = 0) (by omega)]
      have e1 : ∀ y : Bool, (if Int.tmod e b = 0 then some y else some false) = some (decide (Int.tmod e b = 0) && y) := by
        intro y; by_cases h : Int.tmod e b = 0 <;> simp [h]
      simp only [e1, ite_and, h1, h2, Bool.true_and]
      cases stB c <;> cases inB d 0 1000000 <;> cases inB e 0 (a - b) <;> cases inB f 1 64 <;> cases decide (Int.tmod e b = 0) <;> rfl
    · simp [h1, h2]
  · simp [h1]
theorem eqFeed_self (a b c d e f : Int) : laws_eqFeed.f a b c d e f a b c d e f = some true := by simp [laws_eqFeed.f]
theorem skip_same (a b c d e f n : Int) (h1 : feedB a b c d e f = true) (h2 : inB n 0 1000000000000 = true) (m : Nat) :
    ∃ r, spec_Skip.j0 (m + 1) n false a b c d e f = some r ∧ impl_Skip.j0 (m + 1) n false a b c d e f = some r := by
  obtain ⟨ha, hb, hc, hd, hf, he, hr⟩ := (feed_iff _ _ _ _ _ _).1 h1
  have hn := (inB_iff _ _ _).1 h2
  have q1 : 1 ≤ a / b := Int.le_ediv_of_mul_le (by omega) (by omega)
  have q2 : a / b ≤ 4096 := Int.le_trans (Int.ediv_le_self _ (by omega)) (by omega)
  have q3 : 0 ≤ e / b := Int.ediv_nonneg he.1 (by omega)
  have q4 : e / b ≤ 4096 := Int.le_trans (Int.ediv_le_self _ he.1) (by omega)
  have p1 : 0 ≤ d * (a / b) := Int.mul_nonneg hd.1 (by omega)
  have p2 : d * (a / b) ≤ 1000000 * 4096 := Int.mul_le_mul hd.2 q2 (by omega) (by decide)
  have s1 : 0 ≤ (e / b + n) / (a / b) := Int.ediv_nonneg (by omega) (by omega)
  have s2 : (e / b + n) / (a / b) ≤ e / b + n := Int.ediv_le_self _ (by omega)
  have t1 := Int.emod_nonneg (e / b + n) (show a / b ≠ 0 by omega)
  have t2 := Int.emod_lt_of_pos (e / b + n) (show 0 < a / b by omega)
  have u1 : 0 ≤ (e / b + n) % (a / b) * b := Int.mul_nonneg t1 (by omega)
  have u2 : (e / b + n) % (a / b) * b ≤ 4096 * 4096 := Int.mul_le_mul (by omega) (by omega) (by omega) (by decide)
  have g1 : (d * (a / b) + e / b + n) / (a / b) = d + (e / b + n) / (a / b) := by
    rw [Int.add_assoc, Int.add_comm, Int.add_mul_ediv_right _ _ (by omega)]; omega
  have g2 : (d * (a / b) + e / b + n) % (a / b) = (e / b + n) % (a / b) := by
    rw [Int.add_assoc, Int.add_comm, Int.add_mul_emod_self_right]
  simp only [spec_Skip.j0, impl_Skip.j0]
  rw [tdiv_nn (a := a) (by omega), tdiv_nn (a := e) he.1, wid (x := a / b) (by omega) (by omega), wid (x := e / b) (by omega) (by omega),
    wid (x := d * (a / b)) (by omega) (by omega), wid (x := d * (a / b) + e / b) (by omega) (by omega), wid (x := d * (a / b) + e / b + n) (by omega) (by omega),
    wid (x := e / b + n) (by omega) (by omega), tdiv_nn (a := d * (a / b) + e / b + n) (by omega), tdiv_nn (a := e / b + n) (by omega),
    tmod_nn (a := d * (a / b) + e / b + n) (by omega), tmod_nn (a := e / b + n) (by omega), g1, g2, wid (x := (e / b + n) / (a / b)) (by omega) (by omega),
    wid (x := d + (e / b + n) / (a / b)) (by omega) (by omega), wid (x := (e / b + n) % (a / b) * b) (by omega) (by omega)]
  simp only [Bool.false_eq_true, if_false]
  rw [if_neg (c := b = 0) (by omega), if_neg (c := a / b = 0) (by omega)]
  split <;> exact ⟨_, rfl, rfl⟩
theorem FnExactSkip (a0 a1 a2 a3 a4 a5 a6 : Int) (_ : (Lit.int .i64 a0).wf = true) (_ : (Lit.int .i64 a1).wf = true) (_ : (Lit.int .i64 a2).wf = true) (_ : (Lit.int .i64 a3).wf = true) (_ : (Lit.int .i64 a4).wf = true) (_ : (Lit.int .i64 a5).wf = true) (_ : (Lit.int .i64 a6).wf = true) : ∃ k, laws_FnExactSkip.f k a0 a1 a2 a3 a4 a5 a6 = some true := by
  have key : ∃ r, spec_Skip.f 1 a0 a1 a2 a3 a4 a5 a6 = some r ∧ impl_Skip.f 1 a0 a1 a2 a3 a4 a5 a6 = some r := by
    unfold spec_Skip.f impl_Skip.f
    simp only [sFeed, iFeed, Option.bind_some, sIn, iIn]
    by_cases h1 : feedB a0 a1 a2 a3 a4 a5 = true
    · rw [if_pos h1, if_pos h1]
      by_cases h2 : inB a6 0 1000000000000 = true
      · rw [h2]; exact skip_same a0 a1 a2 a3 a4 a5 a6 h1 h2 0
      · rw [Bool.not_eq_true] at h2; rw [h2]; exact ⟨_, rfl, rfl⟩
    · rw [if_neg h1, if_neg h1]; exact ⟨_, rfl, rfl⟩
  obtain ⟨r, h1, h2⟩ := key
  refine ⟨1, ?_⟩
  unfold laws_FnExactSkip.f laws_toFeed.f
  simp only [Option.bind_some]
  rw [h1, h2]; simp only [Option.bind_some, eqFeed_self]; simp

end Go.Proofs.Ytdocahjdpikakaa.Pure
