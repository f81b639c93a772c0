/- laws.FnExactFloor: the program's Floor returns what the reference's returns, for every list of lives. No condition. -/
import Derived.Test.YtbgpehoffkbgkaaPFnExactFloorx3
import Derived.Test.YtbgpehoffkbgkaaAid
import Derived.Test.YtbgpehoffkbgkaaLoop
namespace Go.Proofs.Ytbgpehoffkbgkaa.Pure
open Go.RowKit Go.Proofs.Ytbgpehoffkbgkaa.PFnExactFloor Go.Proofs.YtbgpehoffkbgkaaW.PrintWords Go.Proofs.YtbgpehoffkbgkaaW.PrintLast Go.Proofs.YtbgpehoffkbgkaaW.PrintMore Go.Proofs.Ytbgpehoffkbgkaa.Aid
set_option linter.unusedVariables false
set_option linter.unusedSimpArgs false
def inB (a b c : Int) : Bool := decide (b ≤ a) && decide (a ≤ c)
theorem inB_iff (a b c : Int) : inB a b c = true ↔ b ≤ a ∧ a ≤ c := by unfold inB; simp
theorem inB_not (a b c : Int) : inB a b c = false ↔ ¬ (b ≤ a ∧ a ≤ c) := by rw [← inB_iff]; simp
theorem in_body (a b c : Int) : (if a ≥ b then (some (decide (a ≤ c))) else (some false)) = some (inB a b c) := by
  unfold inB
  by_cases h : b ≤ a
  · rw [if_pos h]; simp [h]
  · rw [if_neg h]; simp [h]
theorem ite_and (b c : Bool) : (if b = true then some c else some false) = some (b && c) := by cases b <;> rfl
theorem ite_same {α : Type} (b : Bool) (x : α) : (if b = true then x else x) = x := by cases b <;> rfl
theorem rdA_nat (l : List S90) (i : Nat) : rd_T90 l (i : Int) = l.getD i z90 := by unfold rd_T90; rw [Int.toNat_natCast]
theorem rdB_nat (l : List S88) (i : Nat) : rd_T88 l (i : Int) = l.getD i z88 := by unfold rd_T88; rw [Int.toNat_natCast]
theorem szL (l : List S90) (a : Int) (hl : l.length ≤ maxLen) (h0 : 0 ≤ a) (h1 : a ≤ 1048576) : laws_szLifeS.f l a = some (if a < (l.length : Int) then -1 else a - l.length) := by
  have hm : maxLen = 9223372036854775807 := rfl
  unfold laws_szLifeS.f
  rw [wid (by omega) (by omega)]
  by_cases c : a < (l.length : Int)
  · rw [if_pos c, if_pos (by omega)]
  · rw [if_neg c, if_neg (by omega)]
def conv (x : S90) : S88 := ⟨x.f0, x.f1, x.f2, x.f3⟩
theorem toL_loop (l : List S90) (hl : l.length ≤ 1048576) : ∀ (d i k : Nat) (y : List S88), i + d = l.length → d < k → y.length = l.length → (∀ j, j < i → y.getD j z88 = conv (l.getD j z90)) → laws_toLifeS.l0 k l y i = some (l.map conv) := by
  intro d
  induction d with
  | zero =>
    intro i k y h hk hy hj
    obtain ⟨k, rfl⟩ : ∃ m, k = m + 1 := ⟨k - 1, by omega⟩
    simp only [laws_toLifeS.l0]
    rw [if_neg (by omega)]
    congr 1
    refine List.ext_getElem (by simpa using hy) fun j h1 h2 => ?_
    have := hj j (by omega)
    rw [Loop.getD_lt _ _ _ h1, Loop.getD_lt _ _ _ (by omega)] at this
    rw [this]; simp
  | succ d ih =>
    intro i k y h hk hy hj
    obtain ⟨k, rfl⟩ : ∃ m, k = m + 1 := ⟨k - 1, by omega⟩
    simp only [laws_toLifeS.l0, laws_toLife.f]
    rw [if_pos (by omega), if_pos (by omega), rdA_nat]
    simp only [Option.bind_some]
    rw [if_pos (by omega), Loop.wsucc i (by omega), Int.toNat_natCast]
    refine ih (i + 1) k _ (by omega) (by omega) (by simpa using hy) fun j h1 => ?_
    by_cases e : j = i
    · rw [e, Loop.getD_set_eq _ _ _ _ (by omega)]; rfl
    · rw [Loop.getD_set_ne _ _ _ _ _ e]; exact hj j (by omega)
theorem toL_ok (l : List S90) (hl : l.length ≤ 1048576) (k : Nat) (hk : l.length < k) : laws_toLifeS.f k l = some (l.map conv) := by
  unfold laws_toLifeS.f
  rw [if_pos (by omega), Int.toNat_natCast, if_pos (by omega)]
  exact toL_loop l hl l.length 0 k _ (by omega) hk (by simp) (by intro j h; omega)
theorem eqL_ok (l : List S88) (hl : l.length ≤ 1048576) (k : Nat) (hk : l.length < k) : laws_eqLifeS.f k l l = some true := by
  unfold laws_eqLifeS.f
  rw [if_pos rfl]
  have e : ∀ x : S88, laws_eqLife.f x.f0 x.f1 x.f2 x.f3 x.f0 x.f1 x.f2 x.f3 = some true := by intro x; simp [laws_eqLife.f]
  have h := Loop.all_ix (fun k i => laws_eqLifeS.l0 k l l i) l.length 1 0 (fun _ => true) (some false) (some true)
    (by intro k i hk hi'
        simp only [laws_eqLifeS.l0]
        rw [if_pos (show (i : Int) < (l.length : Int) by omega), if_pos (show 0 ≤ (i : Int) by omega), if_pos (show (i : Int) < (l.length : Int) by omega), e, Loop.wsucc i (by omega)]
        rfl)
    (by intro k _; simp only [laws_eqLifeS.l0]; rw [if_neg (by omega)])
    l.length 0 k (by omega) (by omega)
  rw [show laws_eqLifeS.l0 k l l 0 = _ from h]
  rw [if_pos ((Loop.allB_iff _ _ _).2 fun j _ _ => rfl)]
/-- A life that can be. -/
def lifeB (x : S88) : Bool := inB x.f1 1 4096 && (decide (0 ≤ x.f2) && (decide (x.f2 ≤ x.f3) && decide (x.f3 ≤ 400)))
theorem life_ifs (x : S88) (go : Option Bool) : (if x.f1 < 1 then (some false) else (if x.f1 > 4096 then (some false) else (if x.f2 < 0 then (some false) else (if x.f2 > x.f3 then (some false) else (if x.f3 > 400 then (some false) else go))))) = if lifeB x = true then go else some false := by
  have hb : lifeB x = true ↔ (1 ≤ x.f1 ∧ x.f1 ≤ 4096) ∧ 0 ≤ x.f2 ∧ x.f2 ≤ x.f3 ∧ x.f3 ≤ 400 := by
    unfold lifeB; simp only [Bool.and_eq_true, inB_iff, decide_eq_true_eq]
  by_cases c1 : x.f1 < 1
  · rw [if_pos c1, if_neg (by rw [hb]; omega)]
  · rw [if_neg c1]
    by_cases c2 : x.f1 > 4096
    · rw [if_pos c2, if_neg (by rw [hb]; omega)]
    · rw [if_neg c2]
      by_cases c3 : x.f2 < 0
      · rw [if_pos c3, if_neg (by rw [hb]; omega)]
      · rw [if_neg c3]
        by_cases c4 : x.f2 > x.f3
        · rw [if_pos c4, if_neg (by rw [hb]; omega)]
        · rw [if_neg c4]
          by_cases c5 : x.f3 > 400
          · rw [if_pos c5, if_neg (by rw [hb]; omega)]
          · rw [if_neg c5, if_pos (by rw [hb]; omega)]
def livesP (l : List S88) (i : Nat) : Bool := lifeB (l.getD i z88)
def livesB (l : List S88) : Bool := decide ((l.length : Int) ≤ 200) && Loop.allB (livesP l) l.length 0
theorem sLives (l : List S88) (hl : l.length ≤ 1048576) (k : Nat) (hk : l.length < k) : spec_l12Ok.f k l = some (livesB l) := by
  have h := Loop.all_ix (fun k i => spec_l12Ok.l0 k l i) l.length 1 0 (livesP l) (some false) (some true)
    (by intro k i _ hi
        simp only [spec_l12Ok.l0]
        rw [if_pos (show (i : Int) < (l.length : Int) by omega), if_pos (show 0 ≤ (i : Int) by omega), rdB_nat, life_ifs, Loop.wsucc i (by omega)]; rfl)
    (by intro k _; simp only [spec_l12Ok.l0]; rw [if_neg (by omega)])
    l.length 0 k (by omega) (by omega)
  unfold spec_l12Ok.f livesB
  by_cases c : (l.length : Int) > 200
  · rw [if_pos c, decide_eq_false (show ¬ (l.length : Int) ≤ 200 by omega)]; rfl
  · rw [if_neg c, decide_eq_true (show (l.length : Int) ≤ 200 by omega), show spec_l12Ok.l0 k l 0 = _ from h]
    cases Loop.allB (livesP l) l.length 0 <;> rfl
theorem iLives (l : List S88) (hl : l.length ≤ 1048576) (k : Nat) (hk : l.length < k) : impl_livesOk.f k l = some (livesB l) := by
  have h := Loop.all_ix (fun k i => impl_livesOk.l0 k l l l.length i) l.length 1 0 (livesP l) (some false) (some (decide ((l.length : Int) ≤ 200)))
    (by intro k i _ hi
        simp only [impl_livesOk.l0]
        rw [if_pos (show (i : Int) < (l.length : Int) by omega), if_pos (show 0 ≤ (i : Int) by omega), if_pos (show (i : Int) < (l.length : Int) by omega), rdB_nat, life_ifs, Loop.wsucc i (by omega)]; rfl)
    (by intro k _; simp only [impl_livesOk.l0]; rw [if_neg (by omega)])
    l.length 0 k (by omega) (by omega)
  unfold impl_livesOk.f livesB
  rw [show impl_livesOk.l0 k l l l.length 0 = _ from h, Bool.and_comm]
  cases Loop.allB (livesP l) l.length 0 <;> rfl
/-- What is alive at t adds up. -/
def sumS (l : List S88) (t : Int) (i : Nat) (s : Int) : Int := if (l.getD i z88).f2 ≤ t ∧ t ≤ (l.getD i z88).f3 then wrap64 (s + (l.getD i z88).f1) else s
def sumI (l : List S88) (t : Int) : Int := (Loop.runIx (fun i s => (.inr (sumS l t i s) : Option Int ⊕ Int)) some l.length 0 0).getD 0
def most : List S88 → Nat → Int → Int → Int
  | _, 0, _, m => m
  | l, d + 1, t, m => most l d (t + 1) (if m < sumI l t then sumI l t else m)
theorem run_inr {S : Type} (f : Nat → S → S) (g : S → Option Int) : ∀ d i s, ∃ x, Loop.runIx (fun i s => (.inr (f i s) : Option Int ⊕ S)) g d i s = g x ∧ Loop.runIx (fun i s => (.inr (f i s) : Option S ⊕ S)) some d i s = some x := by
  intro d
  induction d with
  | zero => intro i s; exact ⟨s, rfl, rfl⟩
  | succ d ih => intro i s; exact ih (i + 1) (f i s)
theorem sum_some (l : List S88) (t : Int) : Loop.runIx (fun i s => (.inr (sumS l t i s) : Option Int ⊕ Int)) some l.length 0 0 = some (sumI l t) := by
  obtain ⟨x, hx⟩ := Loop.run_some (fun i s => (.inr (sumS l t i s) : Option Int ⊕ Int)) some (by intro i s r h; cases h) (fun s => ⟨_, rfl⟩) l.length 0 0
  unfold sumI; rw [hx]; rfl
theorem run_to (l : List S88) (t : Int) (g : Int → Option Int) : Loop.runIx (fun i s => (.inr (sumS l t i s) : Option Int ⊕ Int)) g l.length 0 0 = g (sumI l t) := by
  obtain ⟨x, h1, h2⟩ := run_inr (sumS l t) g l.length 0 0
  rw [sum_some] at h2; cases h2; exact h1
theorem sFloorLoop (l : List S88) (hl : l.length ≤ 1048576) (hok : livesB l = true) : ∀ (d : Nat) (t m : Int) (k : Nat), 0 ≤ t → t + d = 401 → (d + 1) * (l.length + 4) ≤ k → spec_Floor.l0 k l m t = some (most l d t m) := by
  intro d
  induction d with
  | zero =>
    intro t m k h0 h hk
    obtain ⟨k, rfl⟩ : ∃ q, k = q + 2 := ⟨k - 2, by omega⟩
    simp only [spec_Floor.l0, spec_Floor.j1]
    rw [if_neg (by omega)]; rfl
  | succ d ih =>
    intro t m k h0 h hk
    have ek : (d + 1 + 1) * (l.length + 4) = (d + 1) * (l.length + 4) + (l.length + 4) := Nat.succ_mul _ _
    obtain ⟨k, rfl⟩ : ∃ q, k = q + 2 := ⟨k - 2, by omega⟩
    simp only [spec_Floor.l0, spec_Floor.j1]
    rw [if_pos (by omega), sLives l hl _ (by omega), hok]
    simp only [Option.bind_some, if_true]
    have hr := Loop.run_ix (fun k i s => spec_Floor.l1 k l m t s i) l.length 1 ((d + 1) * (l.length + 4)) (fun i s => (.inr (sumS l t i s) : Option Int ⊕ Int)) (fun s => some (most l d (t + 1) (if m < s then s else m)))
      (by intro k i s _ hi
          simp only [spec_Floor.l1]
          rw [if_pos (show (i : Int) < (l.length : Int) by omega), if_pos (show 0 ≤ (i : Int) by omega), rdB_nat, Loop.wsucc i (by omega)]
          unfold sumS
          by_cases c1 : (l.getD i z88).f2 ≤ t
          · rw [if_pos c1]
            by_cases c2 : t ≤ (l.getD i z88).f3
            · rw [if_pos c2, if_pos ⟨c1, c2⟩]
            · rw [if_neg c2, if_neg (fun h => c2 h.2)]
          · rw [if_neg c1, if_neg (fun h => c1 h.1)])
      (by intro k s hk'
          simp only [spec_Floor.l1]
          rw [if_neg (by omega), wid (x := t + 1) (by omega) (by omega)]
          by_cases c : s > m
          · rw [if_pos c, if_pos (show m < s from c), ih (t + 1) s k (by omega) (by omega) hk']
          · rw [if_neg c, if_neg (show ¬ m < s from c), ih (t + 1) m k (by omega) (by omega) hk'])
      l.length 0 k 0 (by omega) (by omega)
    rw [show spec_Floor.l1 k l m t 0 0 = _ from hr, run_to]; rfl
theorem iFloorLoop (l : List S88) (hl : l.length ≤ 1048576) : ∀ (d : Nat) (t m : Int) (k : Nat), 0 ≤ t → t + d = 401 → (d + 1) * (l.length + 4) ≤ k → impl_Floor.l0 k l m t = some (most l d t m) := by
  intro d
  induction d with
  | zero =>
    intro t m k h0 h hk
    obtain ⟨k, rfl⟩ : ∃ q, k = q + 1 := ⟨k - 1, by omega⟩
    simp only [impl_Floor.l0]
    rw [if_neg (by omega)]; rfl
  | succ d ih =>
    intro t m k h0 h hk
    have ek : (d + 1 + 1) * (l.length + 4) = (d + 1) * (l.length + 4) + (l.length + 4) := Nat.succ_mul _ _
    obtain ⟨k, rfl⟩ : ∃ q, k = q + 1 := ⟨k - 1, by omega⟩
    simp only [impl_Floor.l0]
    rw [if_pos (by omega)]
    have hr := Loop.run_ix (fun k i s => impl_Floor.l1 k l m t s t l l.length i) l.length 1 ((d + 1) * (l.length + 4)) (fun i s => (.inr (sumS l t i s) : Option Int ⊕ Int)) (fun s => some (most l d (t + 1) (if m < s then s else m)))
      (by intro k i s _ hi
          simp only [impl_Floor.l1]
          rw [if_pos (show (i : Int) < (l.length : Int) by omega), if_pos (show 0 ≤ (i : Int) by omega), if_pos (show (i : Int) < (l.length : Int) by omega), rdB_nat, Loop.wsucc i (by omega)]
          unfold sumS
          by_cases c1 : (l.getD i z88).f2 ≤ t
          · rw [if_pos c1]
            by_cases c2 : t ≤ (l.getD i z88).f3
            · rw [if_pos c2, if_pos ⟨c1, c2⟩]
            · rw [if_neg c2, if_neg (fun h => c2 h.2)]
          · rw [if_neg c1, if_neg (fun h => c1 h.1)])
      (by intro k s hk'
          simp only [impl_Floor.l1]
          rw [if_neg (by omega), wid (x := t + 1) (by omega) (by omega), ih (t + 1) _ k (by omega) (by omega) hk']
          rfl)
      l.length 0 k 0 (by omega) (by omega)
    rw [show impl_Floor.l1 k l m t 0 t l l.length 0 = _ from hr, run_to]; rfl
theorem FnExactFloor (l : List S90) (h0 : l.length ≤ maxLen) (_ : ∀ x ∈ l, (Lit.int .i64 x.f0).wf = true ∧ (Lit.int .i64 x.f1).wf = true ∧ (Lit.int .i64 x.f2).wf = true ∧ (Lit.int .i64 x.f3).wf = true) : ∃ k, laws_FnExactFloor.f k l = some true := by
  refine ⟨402 * (l.length + 4), ?_⟩
  unfold laws_FnExactFloor.f
  rw [szL l _ h0 (by decide) (by decide)]; simp only [Option.bind_some]
  by_cases c0 : (1048576 : Int) < l.length
  · rw [if_pos c0]; rfl
  · rw [if_neg c0, if_neg (by omega), toL_ok l (by omega) _ (by omega)]; simp only [Option.bind_some]
    have hm : (l.map conv).length = l.length := by simp
    have key : ∃ r, spec_Floor.f (402 * (l.length + 4)) (l.map conv) = some r ∧ impl_Floor.f (402 * (l.length + 4)) (l.map conv) = some r := by
      unfold spec_Floor.f impl_Floor.f
      rw [iLives _ (by omega) _ (by omega)]
      simp only [Option.bind_some]
      by_cases g : livesB (l.map conv) = true
      · rw [if_pos g, sFloorLoop _ (by omega) g 401 0 0 _ (by decide) (by decide) (by rw [hm]; omega), iFloorLoop _ (by omega) 401 0 0 _ (by decide) (by decide) (by rw [hm]; omega)]
        exact ⟨_, rfl, rfl⟩
      · rw [if_neg g]
        refine ⟨0, ?_, rfl⟩
        obtain ⟨k, hk⟩ : ∃ k, 402 * (l.length + 4) = k + 2 := ⟨402 * (l.length + 4) - 2, by omega⟩
        rw [hk]
        simp only [spec_Floor.l0, spec_Floor.j1]
        rw [if_pos (by decide), sLives _ (by omega) _ (by omega)]
        simp only [Option.bind_some]
        rw [if_neg g]
    obtain ⟨r, e1, e2⟩ := key
    rw [e1, e2]; simp only [Option.bind_some, if_true]
    rw [eqL_ok _ (by omega) _ (by omega)]; rfl

end Go.Proofs.Ytbgpehoffkbgkaa.Pure
