/- laws.FnExactWords: the program's Words returns what the reference's returns, in new memory, for every string. No condition. -/
import Derived.Test.YtnebdepjjimecaaPFnExactWordsx2
import Derived.Test.YtnebdepjjimecaaAid
import Derived.Test.YtnebdepjjimecaaLoop
namespace Go.Proofs.Ytnebdepjjimecaa.Pure
open Go.RowKit Go.Proofs.Ytnebdepjjimecaa.PFnExactWords Go.Proofs.YtnebdepjjimecaaW.PrintWords Go.Proofs.YtnebdepjjimecaaW.PrintLast Go.Proofs.YtnebdepjjimecaaW.PrintMore Go.Proofs.Ytnebdepjjimecaa.Aid
set_option linter.unusedVariables false
set_option linter.unusedSimpArgs false
/-- A mark's digits: the same whatever the rounds. -/
theorem mtLoop : ∀ (d : Nat) (x : Int) (s : ByteArray), 0 ≤ x → x ≤ 9223372036854775807 → x < 10 ^ d → s.size + d ≤ 1000000 → ∃ r, ∀ k, d < k → laws_markText.l0 k x s = some r := by
  intro d
  induction d with
  | zero =>
    intro x s h0 hx h1 hs
    have e : x = 0 := by have : (10 : Int) ^ 0 = 1 := rfl
                         omega
    subst e
    refine ⟨(⟨#[109]⟩ : ByteArray) ++ s, fun k hk => ?_⟩
    obtain ⟨k, rfl⟩ : ∃ m, k = m + 1 := ⟨k - 1, by omega⟩
    simp only [laws_markText.l0]
    rw [if_neg (by decide), if_pos (by omega)]
  | succ d ih =>
    intro x s h0 hx h1 hs
    by_cases c : x > 0
    · have hp : (10 : Int) ^ (d + 1) = 10 * 10 ^ d := by rw [Int.pow_succ]; omega
      have e : Int.tdiv x 10 = x / 10 := tdiv_nn h0
      have hsz : ∀ n : Int, (strOfNums [n]).size = 1 := fun n => rfl
      have h2 : x / 10 < 10 ^ d := by omega
      obtain ⟨r, hr⟩ := ih (wrap64 (Int.tdiv x 10)) (strOfNums [(wrap64 (48 + (Int.tmod x 10))) % 256] ++ s) (by rw [e, wid (by omega) (by omega)]; omega) (by rw [e, wid (by omega) (by omega)]; omega) (by rw [e, wid (by omega) (by omega)]; exact h2) (by rw [ByteArray.size_append, hsz]; omega)
      refine ⟨r, fun k hk => ?_⟩
      obtain ⟨k, rfl⟩ : ∃ m, k = m + 1 := ⟨k - 1, by omega⟩
      simp only [laws_markText.l0]
      rw [if_pos c]
      simp only [Option.bind_some]
      rw [if_pos (by rw [hsz]; omega)]
      exact hr k (by omega)
    · refine ⟨(⟨#[109]⟩ : ByteArray) ++ s, fun k hk => ?_⟩
      obtain ⟨k, rfl⟩ : ∃ m, k = m + 1 := ⟨k - 1, by omega⟩
      simp only [laws_markText.l0]
      rw [if_neg c, if_pos (by omega)]
theorem mtOk (x : Int) (h1 : x < 10000000) : ∃ r, ∀ k, 7 < k → laws_markText.f k x = some r := by
  by_cases c : x ≤ 0
  · exact ⟨_, fun k _ => by unfold laws_markText.f; rw [if_pos c]⟩
  · have e7 : (10 : Int) ^ 7 = 10000000 := by decide
    obtain ⟨r, hr⟩ := mtLoop 7 x (⟨#[]⟩ : ByteArray) (by omega) (by omega) (by omega) (by decide)
    exact ⟨r, fun k hk => by unfold laws_markText.f; rw [if_neg c]; exact hr k hk⟩
/-- The mark of a number. -/
def mkT (x : Int) : ByteArray := (laws_markText.f 8 x).getD ByteArray.empty
theorem mkT_ok (x : Int) (h1 : x < 10000000) (k : Nat) (hk : 7 < k) : laws_markText.f k x = some (mkT x) := by
  obtain ⟨r, hr⟩ := mtOk x h1
  rw [hr k hk]; unfold mkT; rw [hr 8 (by omega)]; rfl
theorem rdS_nat (l : List ByteArray) (i : Nat) : rdOf ByteArray.empty l (i : Int) = l.getD i ByteArray.empty := by unfold rdOf; rw [Int.toNat_natCast]
theorem eqS_ok (l : List ByteArray) (hl : l.length ≤ 1048576) (k : Nat) (hk : l.length < k) : laws_eqStringS.f k l l = some true := by
  unfold laws_eqStringS.f
  rw [if_pos rfl]
  have h := Loop.all_ix (fun k i => laws_eqStringS.l0 k l l i) l.length 1 0 (fun _ => true) (some false) (some true)
    (by intro k i hk hi'
        simp only [laws_eqStringS.l0]
        rw [if_pos (show (i : Int) < (l.length : Int) by omega), if_pos (show 0 ≤ (i : Int) by omega), if_pos (show (i : Int) < (l.length : Int) by omega), if_pos trivial, Loop.wsucc i (by omega)]
        rfl)
    (by intro k _; simp only [laws_eqStringS.l0]; rw [if_neg (by omega)])
    l.length 0 k (by omega) (by omega)
  rw [show laws_eqStringS.l0 k l l 0 = _ from h]
  rw [if_pos ((Loop.allB_iff _ _ _).2 fun j _ _ => rfl)]
theorem markS_loop : ∀ (d i k : Nat) (l : List ByteArray), l.length ≤ 1048576 → i + d = l.length → d + 8 < k → (∀ j, j < i → l.getD j ByteArray.empty = mkT (1 + j)) →
    ∃ m, laws_markStringS.l0 k l (1 + i) i = some (1 + (l.length : Int), m) ∧ m.length = l.length ∧ ∀ j, j < l.length → m.getD j ByteArray.empty = mkT (1 + j) := by
  intro d
  induction d with
  | zero =>
    intro i k l hl h hk hj
    obtain ⟨k, rfl⟩ : ∃ m, k = m + 1 := ⟨k - 1, by omega⟩
    simp only [laws_markStringS.l0]
    rw [if_neg (by omega)]
    obtain rfl : i = l.length := by omega
    exact ⟨l, rfl, rfl, hj⟩
  | succ d ih =>
    intro i k l hl h hk hj
    obtain ⟨k, rfl⟩ : ∃ m, k = m + 1 := ⟨k - 1, by omega⟩
    simp only [laws_markStringS.l0]
    rw [if_pos (by omega), mkT_ok _ (by omega) k (by omega)]
    simp only [Option.bind_some]
    rw [if_pos (by omega), Int.toNat_natCast, Loop.wsucc i (by omega), wid (x := 1 + (i : Int) + 1) (by omega) (by omega)]
    have hlen : (l.set i (mkT (1 + (i : Int)))).length = l.length := by simp
    obtain ⟨m, h1, h2, h3⟩ := ih (i + 1) k (l.set i (mkT (1 + (i : Int)))) (by omega) (by omega) (by omega) (by
      intro j hj'
      by_cases e : j = i
      · rw [e, Loop.getD_set_eq _ _ _ _ (by omega)]
      · rw [Loop.getD_set_ne _ _ _ _ _ e]; exact hj j (by omega))
    rw [hlen] at h1 h2 h3
    refine ⟨m, ?_, h2, h3⟩
    rw [← h1]; congr 1
theorem heldS (m : List ByteArray) (n : Nat) (hm : m.length = n) (hn : n ≤ 1048576) (h : ∀ j, j < n → m.getD j ByteArray.empty = mkT (1 + j)) (k : Nat) (hk : n + 8 < k) : laws_heldStringS.f k m 1 = some (1 + (n : Int)) := by
  have hh := Loop.run_ix (fun k i (s : Int) => if s = 1 + i then laws_heldStringS.l0 k m s i else none) n 1 8 (fun i s => if s = 1 + (i : Int) then .inr (s + 1) else .inl none) (fun s => if s = 1 + (n : Int) then some s else none)
    (by intro k i s hk hi
        by_cases c : s = 1 + (i : Int)
        · rw [if_pos c, if_pos c]
          simp only [laws_heldStringS.l0]
          rw [if_pos (show (i : Int) < (m.length : Int) by omega), if_pos (show 0 ≤ (i : Int) by omega), mkT_ok s (by omega) k (by omega), rdS_nat, h i hi]
          simp only [Option.bind_some]
          rw [c, if_pos rfl, Loop.wsucc i (by omega), wid (x := 1 + (i : Int) + 1) (by omega) (by omega), if_pos (by omega)]
        · rw [if_neg c, if_neg c])
    (by intro k s hk
        by_cases c : s = 1 + (n : Int)
        · rw [if_pos c, if_pos c]; simp only [laws_heldStringS.l0]; rw [if_neg (by omega)]
        · rw [if_neg c, if_neg c])
    n 0 k 1 (by omega) (by omega)
  rw [if_pos (by decide)] at hh
  unfold laws_heldStringS.f
  rw [show laws_heldStringS.l0 k m 1 0 = _ from hh]
  exact Loop.run_inv _ _ (fun i s => s = 1 + (i : Int)) (fun r => r = some (1 + (n : Int))) n
    (by intro i s r _ hI e; rw [if_pos hI] at e; cases e)
    (by intro i s s' _ hI e; rw [if_pos hI] at e; cases e; omega)
    (by intro s hI; rw [if_pos hI, hI]) n 0 1 (by omega) (by decide)
def whiteB (x : Int) : Bool := decide (x = 32) || (x == 10)
theorem white_body (x : Int) : (if x = 32 then (some true) else (some (x == 10))) = some (whiteB x) := by
  unfold whiteB
  by_cases c : x = 32
  · rw [if_pos c, decide_eq_true c]; rfl
  · rw [if_neg c, decide_eq_false c]; rfl
theorem sWhite (x : Int) : spec_l20White.f x = some (whiteB x) := white_body x
theorem iGap (x : Int) : impl_isGap.f x = some (whiteB x) := white_body x
/-- Is the byte at a place white? -/
def wAt (s : ByteArray) (i : Nat) : Bool := whiteB (bt s (i : Int))
/-- Two white bytes before i + 1 (one at i, one ahead of it). -/
def twoW (s : ByteArray) : Nat → Bool
  | 0 => false
  | i + 1 => wAt s (i + 1) && wAt s i
/-- A word begins at i + 1. -/
def begB (s : ByteArray) (i : Nat) : Bool :=
  if wAt s (i + 1) then !wAt s i else wAt s i && ((bt s (i : Int) == 10) || twoW s i)
theorem sBegins (s : ByteArray) (i : Nat) (h : i + 1 < s.size) (hs : s.size ≤ 4000) : spec_l20Begins.f s ((i + 1 : Nat) : Int) = some (begB s i) := by
  have e1 : wrap64 (((i + 1 : Nat) : Int) - 1) = (i : Int) := by rw [wid (by omega) (by omega)]; omega
  have e2 : wrap64 (((i + 1 : Nat) : Int) - 2) = (i : Int) - 1 := by rw [wid (by omega) (by omega)]; omega
  unfold spec_l20Begins.f
  rw [if_neg (by omega), e1, e2, if_pos (by omega), if_pos (by omega), sWhite]
  simp only [Option.bind_some]
  rw [if_pos (by omega), if_pos (by omega), sWhite]
  simp only [Option.bind_some]
  show (if wAt s (i + 1) = true then some (!wAt s i) else _) = _
  unfold begB
  by_cases c : wAt s (i + 1) = true
  · rw [if_pos c, if_pos c]
  · rw [if_neg c, if_neg c]
    show (if wAt s i = true then _ else _) = _
    by_cases c1 : wAt s i = true
    · rw [if_pos c1, c1, Bool.true_and]
      by_cases c2 : bt s (i : Int) = 10
      · rw [if_pos c2, c2]; rfl
      · have : (bt s (i : Int) == 10) = false := beq_eq_false_iff_ne.2 c2
        rw [if_neg c2, this, Bool.false_or]
        cases i with
        | zero => rw [if_neg (by decide)]; rfl
        | succ i =>
          rw [if_pos (by omega), if_pos (by omega), if_pos (by omega), sWhite]
          simp only [Option.bind_some, twoW, c1, Bool.true_and]
          have : (((i + 1 : Nat)) : Int) - 1 = (i : Int) := by omega
          rw [this]; rfl
    · rw [if_neg c1]; rw [Bool.not_eq_true] at c1; rw [c1]; rfl
/-- The words from a place on: d bytes are left. -/
def cutW (s : ByteArray) : Nat → Nat → Nat → List ByteArray → List ByteArray
  | 0, _, f, o => o ++ [s.extract f s.size]
  | d + 1, i, f, o => if begB s i then cutW s d (i + 1) (i + 1) (o ++ [s.extract f (i + 1)]) else cutW s d (i + 1) f o
theorem cut_len (s : ByteArray) : ∀ d i f o, (cutW s d i f o).length ≤ o.length + d + 1 := by
  intro d
  induction d with
  | zero => intro i f o; simp [cutW]
  | succ d ih =>
    intro i f o
    simp only [cutW]
    split
    · have := ih (i + 1) (i + 1) (o ++ [s.extract f (i + 1)])
      simp at this; omega
    · have := ih (i + 1) f o; omega
theorem sCut (s : ByteArray) (hs : s.size ≤ 4000) : ∀ (d i f k : Nat) (o : List ByteArray), i + 1 + d = s.size → f ≤ i → o.length ≤ i → d + 2 ≤ k → spec_Words.l0 k s o f ((i + 1 : Nat) : Int) = some (cutW s d i f o) := by
  intro d
  induction d with
  | zero =>
    intro i f k o h hf ho hk
    obtain ⟨k, rfl⟩ : ∃ m, k = m + 2 := ⟨k - 2, by omega⟩
    simp only [spec_Words.l0, cutW]
    rw [if_pos (by omega), if_pos (show ((i + 1 : Nat) : Int) = (s.size : Int) by omega), if_pos (by omega), if_pos (by omega), if_pos (by omega), Loop.wsucc (i + 1) (by omega), if_neg (by omega), Int.toNat_natCast, Int.toNat_natCast]
    have : i + 1 = s.size := by omega
    rw [this]
  | succ d ih =>
    intro i f k o h hf ho hk
    obtain ⟨k, rfl⟩ : ∃ m, k = m + 1 := ⟨k - 1, by omega⟩
    simp only [spec_Words.l0, cutW]
    rw [if_pos (by omega), if_neg (show ¬ ((i + 1 : Nat) : Int) = (s.size : Int) by omega), sBegins s i (by omega) hs, Loop.wsucc (i + 1) (by omega)]
    simp only [Option.bind_some]
    by_cases c : begB s i = true
    · rw [if_pos c, if_pos c, if_pos (by omega), if_pos (by omega), if_pos (by omega), Int.toNat_natCast, Int.toNat_natCast]
      exact ih (i + 1) (i + 1) k _ (by omega) (by omega) (by simp; omega) (by omega)
    · rw [if_neg c, if_neg c]
      exact ih (i + 1) f k o (by omega) (by omega) (by omega) (by omega)
/-- The run of white bytes that ends at i. -/
def runOk (s : ByteArray) (i : Nat) (r : Int) : Prop := 0 ≤ r ∧ r ≤ (i : Int) + 1 ∧ (r > 0 ↔ wAt s i = true) ∧ (r > 1 ↔ twoW s i = true)
theorem iCut (s : ByteArray) (hs : s.size ≤ 4000) : ∀ (d i f k : Nat) (r : Int) (o : List ByteArray), i + 1 + d = s.size → f ≤ i → o.length ≤ i → d + 1 ≤ k → runOk s i r → impl_cut.l0 k s o f r s.size ((i + 1 : Nat) : Int) = some (cutW s d i f o) := by
  intro d
  induction d with
  | zero =>
    intro i f k r o h hf ho hk hr
    obtain ⟨k, rfl⟩ : ∃ m, k = m + 1 := ⟨k - 1, by omega⟩
    simp only [impl_cut.l0, cutW]
    rw [if_neg (by omega), if_pos (by omega), if_pos (by omega), if_pos (by omega), if_pos (by omega), Int.toNat_natCast]
  | succ d ih =>
    intro i f k r o h hf ho hk hr
    obtain ⟨k, rfl⟩ : ∃ m, k = m + 1 := ⟨k - 1, by omega⟩
    obtain ⟨r0, r1, r2, r3⟩ := hr
    have e1 : wrap64 (((i + 1 : Nat) : Int) - 1) = (i : Int) := by rw [wid (by omega) (by omega)]; omega
    simp only [impl_cut.l0, cutW]
    rw [if_pos (show ((i + 1 : Nat) : Int) < (s.size : Int) by omega), if_pos (by omega), if_pos (show ((i + 1 : Nat) : Int) < (s.size : Int) by omega), iGap, Loop.wsucc (i + 1) (by omega), e1, wid (x := r + 1) (by omega) (by omega), Int.toNat_natCast, Int.toNat_natCast]
    simp only [Option.bind_some]
    have g1 : ((i + 1 : Nat) : Int) > (f : Int) := by omega
    have g2 : 0 ≤ (f : Int) := by omega
    have g3 : (f : Int) ≤ ((i + 1 : Nat) : Int) := by omega
    have g4 : ((i + 1 : Nat) : Int) ≤ (s.size : Int) := by omega
    have g5 : o.length < 8796093022208 := by omega
    have g6 : 0 ≤ (i : Int) := by omega
    have g7 : (i : Int) < (s.size : Int) := by omega
    simp only [if_pos g1, if_pos g2, if_pos g3, if_pos g4, if_pos g5, if_pos g6, if_pos g7]
    show (if wAt s (i + 1) = true then _ else _) = _
    unfold begB
    by_cases c : wAt s (i + 1) = true
    · rw [if_pos c]; simp only [if_pos c]
      have hr' : runOk s (i + 1) (r + 1) := by
        refine ⟨by omega, by omega, ⟨fun _ => c, fun _ => by omega⟩, ?_⟩
        simp only [twoW, c, Bool.true_and]
        rw [← r2]; omega
      by_cases z : r = 0
      · have w : wAt s i = false := Bool.eq_false_iff.2 (fun h => by have := r2.2 h; omega)
        rw [if_pos z, w]
        exact ih (i + 1) (i + 1) k (r + 1) _ (by omega) (by omega) (by simp; omega) (by omega) hr'
      · have w : wAt s i = true := r2.1 (by omega)
        rw [if_neg z, w]
        exact ih (i + 1) f k (r + 1) o (by omega) (by omega) (by omega) (by omega) hr'
    · rw [if_neg c]; simp only [if_neg c]
      have hr' : runOk s (i + 1) 0 := by
        refine ⟨by omega, by omega, ⟨fun h => absurd h (by omega), fun h => absurd h c⟩, ⟨fun h => absurd h (by omega), fun h => ?_⟩⟩
        simp only [twoW, Bool.and_eq_true] at h
        exact absurd h.1 c
      by_cases z1 : r > 1
      · have w : wAt s i = true := r2.1 (by omega)
        rw [if_pos z1, w, r3.1 z1, Bool.or_true]
        exact ih (i + 1) (i + 1) k 0 _ (by omega) (by omega) (by simp; omega) (by omega) hr'
      · have t : twoW s i = false := Bool.eq_false_iff.2 (fun h => z1 (r3.2 h))
        rw [if_neg z1, t, Bool.or_false]
        by_cases z2 : r = 1
        · have w : wAt s i = true := r2.1 (by omega)
          rw [if_pos z2, w, Bool.true_and]
          by_cases b : bt s (i : Int) = 10
          · rw [if_pos b, b]
            exact ih (i + 1) (i + 1) k 0 _ (by omega) (by omega) (by simp; omega) (by omega) hr'
          · have : (bt s (i : Int) == 10) = false := beq_eq_false_iff_ne.2 b
            rw [if_neg b, this]
            exact ih (i + 1) f k 0 o (by omega) (by omega) (by omega) (by omega) hr'
        · have w : wAt s i = false := Bool.eq_false_iff.2 (fun h => by have := r2.2 h; omega)
          rw [if_neg z2, w]
          exact ih (i + 1) f k 0 o (by omega) (by omega) (by omega) (by omega) hr'
/-- The words of a text. -/
def wordsI (s : ByteArray) : List ByteArray := if s.size > 4000 ∨ s.size = 0 then [] else cutW s (s.size - 1) 0 0 []
theorem words_len (s : ByteArray) : (wordsI s).length ≤ 4001 := by
  unfold wordsI
  split
  · simp
  · have := cut_len s (s.size - 1) 0 0 []
    simp at this; omega
theorem sWords (s : ByteArray) (k : Nat) (hk : 4010 ≤ k) : spec_Words.f k s = some (wordsI s) := by
  unfold spec_Words.f wordsI
  simp only [Option.bind_some]
  by_cases c : (s.size : Int) > 4000
  · rw [if_pos c, if_pos (.inl (by omega))]
  · rw [if_neg c]
    by_cases z : s.size = 0
    · rw [if_pos (.inr z)]
      obtain ⟨k, rfl⟩ : ∃ m, k = m + 1 := ⟨k - 1, by omega⟩
      simp only [spec_Words.l0]
      rw [if_neg (by omega)]
    · rw [if_neg (by omega)]
      exact sCut s (by omega) (s.size - 1) 0 0 k [] (by omega) (by omega) (by simp) (by omega)
theorem iWords (s : ByteArray) (k : Nat) (hk : 4010 ≤ k) : impl_Words.f k s = some (wordsI s) := by
  unfold impl_Words.f wordsI
  by_cases c : (s.size : Int) > 4000
  · rw [if_pos c, if_pos (.inl (by omega))]
  · rw [if_neg c]
    unfold impl_cut.f
    by_cases z : s.size = 0
    · rw [if_pos (.inr z)]
      obtain ⟨k, rfl⟩ : ∃ m, k = m + 1 := ⟨k - 1, by omega⟩
      simp only [impl_cut.l0]
      rw [if_neg (by omega), if_neg (by omega)]; rfl
    · rw [if_neg (show ¬ (s.size > 4000 ∨ s.size = 0) by omega)]
      obtain ⟨k, rfl⟩ : ∃ m, k = m + 1 := ⟨k - 1, by omega⟩
      have w1 : wrap64 ((0 : Int) + 1) = 1 := wid (by decide) (by decide)
      have fin : ∀ r, runOk s 0 r → impl_cut.l0 k s [] 0 r s.size 1 = some (cutW s (s.size - 1) 0 0 []) := fun r hr =>
        iCut s (by omega) (s.size - 1) 0 0 k r [] (by omega) (by omega) (by simp) (by omega) hr
      simp only [impl_cut.l0]
      rw [if_pos (show (0 : Int) < (s.size : Int) by omega), if_pos (by decide), if_pos (show (0 : Int) < (s.size : Int) by omega), iGap, w1]
      simp only [Option.bind_some]
      show (Option.bind (if wAt s 0 = true then _ else _) _) = _
      by_cases b : wAt s 0 = true
      · rw [if_pos b, if_pos trivial, if_neg (by decide), fin 1 ⟨by decide, by decide, ⟨fun _ => b, fun _ => by decide⟩, ⟨fun h => absurd h (by decide), fun h => by cases h⟩⟩]; rfl
      · rw [if_neg b, if_neg (by decide), if_neg (by decide), fin 0 ⟨by decide, by decide, ⟨fun h => absurd h (by decide), fun h => absurd h b⟩, ⟨fun h => absurd h (by decide), fun h => by cases h⟩⟩]; rfl
theorem FnExactWords : laws_FnExactWords.Pure := by
  intro s _
  refine ⟨1100000, ?_⟩
  unfold laws_FnExactWords.f
  by_cases c : (s.size : Int) > 1048576
  · rw [if_pos c]
  · have hl := words_len s
    rw [if_neg c, sWords s _ (by decide), iWords s _ (by decide)]
    simp only [Option.bind_some]
    rw [eqS_ok _ (by omega) _ (by omega)]
    simp only [Option.bind_some, if_true]
    obtain ⟨m, h1, h2, h3⟩ := markS_loop (wordsI s).length 0 1100000 (wordsI s) (by omega) (by omega) (by omega) (fun j hj => by omega)
    have h1' : laws_markStringS.f 1100000 (wordsI s) 1 = some (1 + ((wordsI s).length : Int), m) := h1
    rw [h1']
    simp only [Option.bind_some]
    rw [heldS m (wordsI s).length h2 (by omega) h3 _ (by omega)]
    simp only [Option.bind_some]
    rw [if_neg (by omega), if_pos trivial, if_neg (by omega), if_pos trivial]

end Go.Proofs.Ytnebdepjjimecaa.Pure
