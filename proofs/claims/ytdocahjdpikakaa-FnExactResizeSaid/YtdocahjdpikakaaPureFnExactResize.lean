/- laws.FnExactResize: the program's Resize returns what the reference's returns, for every feed and int. No condition. -/
import Derived.Test.YtdocahjdpikakaaPFnExactResizex1
import Derived.Test.YtdocahjdpikakaaAid
namespace Go.Proofs.Ytdocahjdpikakaa.Pure
open Go.RowKit Go.Proofs.Ytdocahjdpikakaa.PFnExactResize Go.Proofs.YtdocahjdpikakaaW.PrintWords Go.Proofs.YtdocahjdpikakaaW.PrintLast Go.Proofs.Ytdocahjdpikakaa.Aid
set_option linter.unusedVariables false
set_option linter.unusedSimpArgs false
def inB (a b c : Int) : Bool := decide (b ≤ a) && decide (a ≤ c)
theorem inB_iff (a b c : Int) : inB a b c = true ↔ b ≤ a ∧ a ≤ c := by unfold inB; simp
theorem inB_not (a b c : Int) : inB a b c = false ↔ ¬ (b ≤ a ∧ a ≤ c) := by rw [← inB_iff]; simp
theorem in_body (a b c : Int) : (if a ≥ b then (some (decide (a ≤ c))) else (some false)) = some (inB a b c) := by
  unfold inB
  by_cases h : b ≤ a
  · rw [if_pos h]; simp [h]
  · rw [if_neg h]; simp [h]
theorem ite_and (b c : Bool) : (if b = true then some c else some false) = some (b && c) := by cases b <;> rfl
theorem ite_same {α : Type} (b : Bool) (x : α) : (if b = true then x else x) = x := by cases b <;> rfl
theorem sIn (a b c : Int) : spec_l5In.f a b c = some (inB a b c) := in_body a b c
theorem iIn (a b c : Int) : impl_within.f a b c = some (inB a b c) := in_body a b c
def stB (a : Int) : Bool := decide (0 ≤ a) && decide (a < 4294967296)
theorem stB_iff (a : Int) : stB a = true ↔ 0 ≤ a ∧ a < 4294967296 := by unfold stB; simp
theorem st_body (a : Int) : (if a ≥ 0 then (some (decide (a < 4294967296))) else (some false)) = some (stB a) := by
  unfold stB
  by_cases h : 0 ≤ a
  · rw [if_pos h]; simp [h]
  · rw [if_neg h]; simp [h]
theorem sSt (a : Int) : spec_l16State.f a = some (stB a) := st_body a
theorem iSt (a : Int) : impl_isState.f a = some (stB a) := st_body a
def feedB (a b c d e f : Int) : Bool := inB a 1 4096 && (inB b 1 a && (stB c && (inB d 0 1000000 && (inB f 1 64 && (inB e 0 (a - b) && decide (Int.tmod e b = 0))))))
theorem feed_iff (a b c d e f : Int) : feedB a b c d e f = true ↔ (1 ≤ a ∧ a ≤ 4096) ∧ (1 ≤ b ∧ b ≤ a) ∧ (0 ≤ c ∧ c < 4294967296) ∧ (0 ≤ d ∧ d ≤ 1000000) ∧ (1 ≤ f ∧ f ≤ 64) ∧ (0 ≤ e ∧ e ≤ a - b) ∧ Int.tmod e b = 0 := by
  unfold feedB
  simp only [Bool.and_eq_true, inB_iff, stB_iff, decide_eq_true_eq]
theorem sFeed (a b c d e f : Int) : spec_FeedOk.f a b c d e f = some (feedB a b c d e f) := by
  unfold spec_FeedOk.f
  simp only [Option.bind_some, sIn, sSt]
  unfold feedB
  by_cases h1 : inB a 1 4096 = true
  · by_cases h2 : inB b 1 a = true
    · have b1 := (inB_iff _ _ _).1 h1
      have b2 := (inB_iff _ _ _).1 h2
      rw [wid (x := a - b) (by omega) (by omega), if_neg (c := b = 0) (by omega)]
      simp only [ite_and]
      rfl
    · simp [h1, h2]
  · simp [h1]
theorem iFeed (a b c d e f : Int) : impl_FeedOk.f a b c d e f = some (feedB a b c d e f) := by
  unfold impl_FeedOk.f
  simp only [Option.bind_some, iIn, iSt]
  unfold feedB
  by_cases h1 : inB a 1 4096 = true
  · by_cases h2 : inB b 1 a = true
    · have b1 := (inB_iff _ _ _).1 h1
      have b2 := (inB_iff _ _ _).1 h2
      rw [wid (x := a - b) (by omega) (by omega), if_neg (c := b = 0) (by omega)]
      have e1 : ∀ y : Bool, (if Int.tmod e b = 0 then some y else some false) = some (decide (Int.tmod e b = 0) && y) := by
        intro y; by_cases h : Int.tmod e b = 0 <;> simp [h]
      simp only [e1, ite_and, h1, h2, Bool.true_and]
      cases stB c <;> cases inB d 0 1000000 <;> cases inB e 0 (a - b) <;> cases inB f 1 64 <;> cases decide (Int.tmod e b = 0) <;> rfl
    · simp [h1, h2]
  · simp [h1]
theorem eqFeed_self (a b c d e f : Int) : laws_eqFeed.f a b c d e f a b c d e f = some true := by simp [laws_eqFeed.f]
theorem FnExactResize (a0 a1 a2 a3 a4 a5 a6 : Int) (_ : (Lit.int .i64 a0).wf = true) (_ : (Lit.int .i64 a1).wf = true) (_ : (Lit.int .i64 a2).wf = true) (_ : (Lit.int .i64 a3).wf = true) (_ : (Lit.int .i64 a4).wf = true) (_ : (Lit.int .i64 a5).wf = true) (_ : (Lit.int .i64 a6).wf = true) : laws_FnExactResize.f a0 a1 a2 a3 a4 a5 a6 = some true := by
  have key : ∃ r, spec_Resize.f a0 a1 a2 a3 a4 a5 a6 = some r ∧ impl_Resize.f a0 a1 a2 a3 a4 a5 a6 = some r := by
    unfold spec_Resize.f impl_Resize.f
    simp only [sFeed, iFeed, Option.bind_some]
    split
    · split <;> exact ⟨_, rfl, rfl⟩
    · exact ⟨_, rfl, rfl⟩
  obtain ⟨r, h1, h2⟩ := key
  unfold laws_FnExactResize.f laws_toFeed.f
  simp only [Option.bind_some]
  rw [h1, h2]; simp only [Option.bind_some, eqFeed_self]; simp

end Go.Proofs.Ytdocahjdpikakaa.Pure
