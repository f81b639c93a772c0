/- laws.FnExactPackOk: the program's PackOk returns what the reference's returns, for every list of lives and list of offsets. No condition. -/
import Derived.Test.YtdocahjdpikakaaPFnExactPackOkx6
import Derived.Test.YtdocahjdpikakaaAid
import Derived.Test.YtdocahjdpikakaaLoop
namespace Go.Proofs.Ytdocahjdpikakaa.Pure
open Go.RowKit Go.Proofs.Ytdocahjdpikakaa.PFnExactPackOk Go.Proofs.YtdocahjdpikakaaW.PrintWords Go.Proofs.YtdocahjdpikakaaW.PrintLast Go.Proofs.YtdocahjdpikakaaW.PrintMore Go.Proofs.Ytdocahjdpikakaa.Aid
set_option linter.unusedVariables false
set_option linter.unusedSimpArgs false
def inB (a b c : Int) : Bool := decide (b ≤ a) && decide (a ≤ c)
theorem inB_iff (a b c : Int) : inB a b c = true ↔ b ≤ a ∧ a ≤ c := by unfold inB; simp
theorem inB_not (a b c : Int) : inB a b c = false ↔ ¬ (b ≤ a ∧ a ≤ c) := by rw [← inB_iff]; simp
theorem in_body (a b c : Int) : (if a ≥ b then (some (decide (a ≤ c))) else (some false)) = some (inB a b c) := by
  unfold inB
  by_cases h : b ≤ a
  · rw [if_pos h]; simp [h]
  · rw [if_neg h]; simp [h]
theorem ite_and (b c : Bool) : (if b = true then some c else some false) = some (b && c) := by cases b <;> rfl
theorem ite_same {α : Type} (b : Bool) (x : α) : (if b = true then x else x) = x := by cases b <;> rfl
theorem rd_nat (l : List Int) (i : Nat) : rd l (i : Int) = l.getD i 0 := by unfold rd; rw [Int.toNat_natCast]
theorem toIntS_loop (l : List Int) (hl : l.length ≤ 1048576) : ∀ (d i k : Nat) (y : List Int), i + d = l.length → d < k → y.length = l.length → (∀ j, j < i → y.getD j 0 = l.getD j 0) → laws_toIntS.l0 k l y i = some l := by
  intro d
  induction d with
  | zero =>
    intro i k y h hk hy hj
    obtain ⟨k, rfl⟩ : ∃ m, k = m + 1 := ⟨k - 1, by omega⟩
    simp only [laws_toIntS.l0]
    rw [if_neg (by omega)]
    congr 1
    refine List.ext_getElem hy fun j h1 h2 => ?_
    have := hj j (by omega)
    rwa [Loop.getD_lt _ _ _ h1, Loop.getD_lt _ _ _ h2] at this
  | succ d ih =>
    intro i k y h hk hy hj
    obtain ⟨k, rfl⟩ : ∃ m, k = m + 1 := ⟨k - 1, by omega⟩
    simp only [laws_toIntS.l0]
    rw [if_pos (by omega), if_pos (by omega), if_pos (by omega), Loop.wsucc i (by omega), Int.toNat_natCast, rd_nat]
    refine ih (i + 1) k _ (by omega) (by omega) (by simpa using hy) fun j h1 => ?_
    by_cases e : j = i
    · rw [e, Loop.getD_set_eq _ _ _ _ (by omega)]
    · rw [Loop.getD_set_ne _ _ _ _ _ e]; exact hj j (by omega)
theorem toIntS_ok (l : List Int) (hl : l.length ≤ 1048576) (k : Nat) (hk : l.length < k) : laws_toIntS.f k l = some l := by
  unfold laws_toIntS.f
  rw [if_pos (by omega), Int.toNat_natCast, if_pos (by omega)]
  exact toIntS_loop l hl l.length 0 k _ (by omega) hk (by simp) (by intro j h; omega)
theorem eqIntS_loop (l : List Int) (hl : l.length ≤ 1048576) : ∀ (d i k : Nat), i + d = l.length → d < k → laws_eqIntS.l0 k l l i = some true := by
  intro d
  induction d with
  | zero =>
    intro i k h hk
    obtain ⟨k, rfl⟩ : ∃ m, k = m + 1 := ⟨k - 1, by omega⟩
    simp only [laws_eqIntS.l0]
    rw [if_neg (by omega)]
  | succ d ih =>
    intro i k h hk
    obtain ⟨k, rfl⟩ : ∃ m, k = m + 1 := ⟨k - 1, by omega⟩
    simp only [laws_eqIntS.l0]
    rw [if_pos (by omega), if_pos (by omega), if_pos (by omega), if_pos trivial, Loop.wsucc i (by omega)]
    exact ih (i + 1) k (by omega) (by omega)
theorem eqIntS_ok (l : List Int) (hl : l.length ≤ 1048576) (k : Nat) (hk : l.length < k) : laws_eqIntS.f k l l = some true := by
  unfold laws_eqIntS.f
  rw [if_pos rfl]
  exact eqIntS_loop l hl l.length 0 k (by omega) hk
theorem rdA_nat (l : List S74) (i : Nat) : rd_T74 l (i : Int) = l.getD i z74 := by unfold rd_T74; rw [Int.toNat_natCast]
theorem rdB_nat (l : List S72) (i : Nat) : rd_T72 l (i : Int) = l.getD i z72 := by unfold rd_T72; rw [Int.toNat_natCast]
theorem szL (l : List S74) (a : Int) (hl : l.length ≤ maxLen) (h0 : 0 ≤ a) (h1 : a ≤ 1048576) : laws_szLifeS.f l a = some (if a < (l.length : Int) then -1 else a - l.length) := by
  have hm : maxLen = 9223372036854775807 := rfl
  unfold laws_szLifeS.f
  rw [wid (by omega) (by omega)]
  by_cases c : a < (l.length : Int)
  · rw [if_pos c, if_pos (by omega)]
  · rw [if_neg c, if_neg (by omega)]
def conv (x : S74) : S72 := ⟨x.f0, x.f1, x.f2, x.f3⟩
theorem toL_loop (l : List S74) (hl : l.length ≤ 1048576) : ∀ (d i k : Nat) (y : List S72), i + d = l.length → d < k → y.length = l.length → (∀ j, j < i → y.getD j z72 = conv (l.getD j z74)) → laws_toLifeS.l0 k l y i = some (l.map conv) := by
  intro d
  induction d with
  | zero =>
    intro i k y h hk hy hj
    obtain ⟨k, rfl⟩ : ∃ m, k = m + 1 := ⟨k - 1, by omega⟩
    simp only [laws_toLifeS.l0]
    rw [if_neg (by omega)]
    congr 1
    refine List.ext_getElem (by simpa using hy) fun j h1 h2 => ?_
    have := hj j (by omega)
    rw [Loop.getD_lt _ _ _ h1, Loop.getD_lt _ _ _ (by omega)] at this
    rw [this]; simp
  | succ d ih =>
    intro i k y h hk hy hj
    obtain ⟨k, rfl⟩ : ∃ m, k = m + 1 := ⟨k - 1, by omega⟩
    simp only [laws_toLifeS.l0, laws_toLife.f]
    rw [if_pos (by omega), if_pos (by omega), rdA_nat]
    simp only [Option.bind_some]
    rw [if_pos (by omega), Loop.wsucc i (by omega), Int.toNat_natCast]
    refine ih (i + 1) k _ (by omega) (by omega) (by simpa using hy) fun j h1 => ?_
    by_cases e : j = i
    · rw [e, Loop.getD_set_eq _ _ _ _ (by omega)]; rfl
    · rw [Loop.getD_set_ne _ _ _ _ _ e]; exact hj j (by omega)
theorem toL_ok (l : List S74) (hl : l.length ≤ 1048576) (k : Nat) (hk : l.length < k) : laws_toLifeS.f k l = some (l.map conv) := by
  unfold laws_toLifeS.f
  rw [if_pos (by omega), Int.toNat_natCast, if_pos (by omega)]
  exact toL_loop l hl l.length 0 k _ (by omega) hk (by simp) (by intro j h; omega)
theorem eqL_ok (l : List S72) (hl : l.length ≤ 1048576) (k : Nat) (hk : l.length < k) : laws_eqLifeS.f k l l = some true := by
  unfold laws_eqLifeS.f
  rw [if_pos rfl]
  have e : ∀ x : S72, laws_eqLife.f x.f0 x.f1 x.f2 x.f3 x.f0 x.f1 x.f2 x.f3 = some true := by intro x; simp [laws_eqLife.f]
  have h := Loop.all_ix (fun k i => laws_eqLifeS.l0 k l l i) l.length 1 0 (fun _ => true) (some false) (some true)
    (by intro k i hk hi'
        simp only [laws_eqLifeS.l0]
        rw [if_pos (show (i : Int) < (l.length : Int) by omega), if_pos (show 0 ≤ (i : Int) by omega), if_pos (show (i : Int) < (l.length : Int) by omega), e, Loop.wsucc i (by omega)]
        rfl)
    (by intro k _; simp only [laws_eqLifeS.l0]; rw [if_neg (by omega)])
    l.length 0 k (by omega) (by omega)
  rw [show laws_eqLifeS.l0 k l l 0 = _ from h]
  rw [if_pos ((Loop.allB_iff _ _ _).2 fun j _ _ => rfl)]
/-- A life that can be. -/
def lifeB (x : S72) : Bool := inB x.f1 1 4096 && (decide (0 ≤ x.f2) && (decide (x.f2 ≤ x.f3) && decide (x.f3 ≤ 400)))
theorem life_ifs (x : S72) (go : Option Bool) : (if x.f1 < 1 then (some false) else (if x.f1 > 4096 then (some false) else (if x.f2 < 0 then (some false) else (if x.f2 > x.f3 then (some false) else (if x.f3 > 400 then (some false) else go))))) = if lifeB x = true then go else some false := by
  have hb : lifeB x = true ↔ (1 ≤ x.f1 ∧ x.f1 ≤ 4096) ∧ 0 ≤ x.f2 ∧ x.f2 ≤ x.f3 ∧ x.f3 ≤ 400 := by
    unfold lifeB; simp only [Bool.and_eq_true, inB_iff, decide_eq_true_eq]
  by_cases c1 : x.f1 < 1
  · rw [if_pos c1, if_neg (by rw [hb]; omega)]
  · rw [if_neg c1]
    by_cases c2 : x.f1 > 4096
    · rw [if_pos c2, if_neg (by rw [hb]; omega)]
    · rw [if_neg c2]
      by_cases c3 : x.f2 < 0
      · rw [if_pos c3, if_neg (by rw [hb]; omega)]
      · rw [if_neg c3]
        by_cases c4 : x.f2 > x.f3
        · rw [if_pos c4, if_neg (by rw [hb]; omega)]
        · rw [if_neg c4]
          by_cases c5 : x.f3 > 400
          · rw [if_pos c5, if_neg (by rw [hb]; omega)]
          · rw [if_neg c5, if_pos (by rw [hb]; omega)]
def livesP (l : List S72) (i : Nat) : Bool := lifeB (l.getD i z72)
def livesB (l : List S72) : Bool := decide ((l.length : Int) ≤ 200) && Loop.allB (livesP l) l.length 0
theorem sLives (l : List S72) (hl : l.length ≤ 1048576) (k : Nat) (hk : l.length < k) : spec_l12Ok.f k l = some (livesB l) := by
  have h := Loop.all_ix (fun k i => spec_l12Ok.l0 k l i) l.length 1 0 (livesP l) (some false) (some true)
    (by intro k i _ hi
        simp only [spec_l12Ok.l0]
        rw [if_pos (show (i : Int) < (l.length : Int) by omega), if_pos (show 0 ≤ (i : Int) by omega), rdB_nat, life_ifs, Loop.wsucc i (by omega)]; rfl)
    (by intro k _; simp only [spec_l12Ok.l0]; rw [if_neg (by omega)])
    l.length 0 k (by omega) (by omega)
  unfold spec_l12Ok.f livesB
  by_cases c : (l.length : Int) > 200
  · rw [if_pos c, decide_eq_false (show ¬ (l.length : Int) ≤ 200 by omega)]; rfl
  · rw [if_neg c, decide_eq_true (show (l.length : Int) ≤ 200 by omega), show spec_l12Ok.l0 k l 0 = _ from h]
    cases Loop.allB (livesP l) l.length 0 <;> rfl
theorem iLives (l : List S72) (hl : l.length ≤ 1048576) (k : Nat) (hk : l.length < k) : impl_livesOk.f k l = some (livesB l) := by
  have h := Loop.all_ix (fun k i => impl_livesOk.l0 k l l l.length i) l.length 1 0 (livesP l) (some false) (some (decide ((l.length : Int) ≤ 200)))
    (by intro k i _ hi
        simp only [impl_livesOk.l0]
        rw [if_pos (show (i : Int) < (l.length : Int) by omega), if_pos (show 0 ≤ (i : Int) by omega), if_pos (show (i : Int) < (l.length : Int) by omega), rdB_nat, life_ifs, Loop.wsucc i (by omega)]; rfl)
    (by intro k _; simp only [impl_livesOk.l0]; rw [if_neg (by omega)])
    l.length 0 k (by omega) (by omega)
  unfold impl_livesOk.f livesB
  rw [show impl_livesOk.l0 k l l l.length 0 = _ from h, Bool.and_comm]
  cases Loop.allB (livesP l) l.length 0 <;> rfl
def meetB (x y : S72) : Bool := decide (x.f2 ≤ y.f3) && decide (y.f2 ≤ x.f3)
theorem meet_comm (x y : S72) : meetB x y = meetB y x := Bool.and_comm _ _
theorem meet_body (x y : S72) : (if x.f2 ≤ y.f3 then (some (decide (y.f2 ≤ x.f3))) else (some false)) = some (meetB x y) := by
  unfold meetB
  by_cases c : x.f2 ≤ y.f3
  · rw [if_pos c, decide_eq_true c]; rfl
  · rw [if_neg c, decide_eq_false c]; rfl
theorem sMeet (x y : S72) : spec_l12Meet.f x.f0 x.f1 x.f2 x.f3 y.f0 y.f1 y.f2 y.f3 = some (meetB x y) := meet_body x y
theorem iMeet (x y : S72) : impl_Life_meets.f x.f0 x.f1 x.f2 x.f3 y.f0 y.f1 y.f2 y.f3 = some (meetB x y) := meet_body x y
/-- Two lives that meet lie over each other. -/
def confB (l : List S72) (o : List Int) (i j : Nat) : Bool :=
  meetB (l.getD i z72) (l.getD j z72) && (decide (o.getD i 0 < wrap64 (o.getD j 0 + (l.getD j z72).f1)) && decide (o.getD j 0 < wrap64 (o.getD i 0 + (l.getD i z72).f1)))
theorem conf_comm (l : List S72) (o : List Int) (i j : Nat) : confB l o i j = confB l o j i := by
  unfold confB
  rw [meet_comm, Bool.and_comm (decide (o.getD i 0 < _))]
def offP (o : List Int) (i : Nat) : Bool := inB (o.getD i 0) 0 1000000
def freeP (l : List S72) (o : List Int) (i j : Nat) : Bool := (decide (j = i)) || !confB l o i j
theorem sFree (l : List S72) (o : List Int) (hl : l.length ≤ 1048576) (ho : o.length = l.length) (hoff : ∀ j, j < l.length → 0 ≤ o.getD j 0) (i : Nat) (hi : i < l.length) (k : Nat) (hk : 2 * (l.length + 1) ≤ k) :
    spec_l12Free.f k l o i (o.getD i 0) = some (Loop.allB (freeP l o i) l.length 0) := by
  have h := Loop.all_ix (fun k j => spec_l12Free.l0 k l o i (o.getD i 0) j) l.length 2 0 (freeP l o i) (some false) (some true)
    (by intro k j _ hj
        simp only [spec_l12Free.l0, spec_l12Free.j1]
        rw [if_pos (show (j : Int) < (l.length : Int) by omega), rd_nat, rdB_nat, rdB_nat, Loop.wsucc j (by omega)]
        unfold freeP
        by_cases e : j = i
        · subst e
          rw [if_pos rfl, if_pos trivial, decide_eq_true rfl, Bool.true_or, if_pos rfl]
        · rw [if_neg (show ¬ (j : Int) = (i : Int) by omega), decide_eq_false e, Bool.false_or, if_pos (show 0 ≤ (j : Int) by omega), if_pos (show (j : Int) < (o.length : Int) by omega),
            if_neg (show ¬ o.getD j 0 < 0 by have := hoff j hj; omega), if_pos (show 0 ≤ (i : Int) by omega), if_pos (show (i : Int) < (l.length : Int) by omega), sMeet]
          simp only [Option.bind_some]
          unfold confB
          cases meetB (l.getD i z72) (l.getD j z72)
          · rfl
          · simp only [Bool.not_true, Bool.false_eq_true, if_false, Bool.true_and]
            rw [if_pos (show 0 ≤ (j : Int) by omega), if_pos (show (j : Int) < (o.length : Int) by omega), if_pos (show (j : Int) < (l.length : Int) by omega)]
            by_cases c1 : o.getD i 0 < wrap64 (o.getD j 0 + (l.getD j z72).f1)
            · rw [if_pos c1, if_pos (show 0 ≤ (i : Int) by omega), if_pos (show (i : Int) < (l.length : Int) by omega), decide_eq_true c1, Bool.true_and]
              by_cases c2 : o.getD j 0 < wrap64 (o.getD i 0 + (l.getD i z72).f1)
              · rw [if_pos c2, decide_eq_true c2]; rfl
              · rw [if_neg c2, decide_eq_false c2]; rfl
            · rw [if_neg c1, decide_eq_false c1]; rfl)
    (by intro k _; simp only [spec_l12Free.l0]; rw [if_neg (by omega)])
    l.length 0 k (by omega) (by omega)
  unfold spec_l12Free.f
  rw [show spec_l12Free.l0 k l o i (o.getD i 0) 0 = _ from h]
  cases Loop.allB (freeP l o i) l.length 0 <;> rfl
def packB (l : List S72) (o : List Int) : Bool := Loop.allB (offP o) l.length 0 && Loop.allB (fun i => Loop.allB (freeP l o i) l.length 0) l.length 0
theorem sPackL1 (l : List S72) (o : List Int) (hl : l.length ≤ 1048576) (ho : o.length = l.length) (hoff : ∀ j, j < l.length → 0 ≤ o.getD j 0) (k : Nat) (hk : 4 * (l.length + 2) ≤ k) :
    spec_PackOk.l1 k l o 0 = some (Loop.allB (fun i => Loop.allB (freeP l o i) l.length 0) l.length 0) := by
  have h := Loop.all_ix (fun k i => spec_PackOk.l1 k l o i) l.length 1 (2 * (l.length + 1)) (fun i => Loop.allB (freeP l o i) l.length 0) (some false) (some true)
    (by intro k i hk hi
        simp only [spec_PackOk.l1]
        rw [if_pos (show (i : Int) < (l.length : Int) by omega), if_pos (show 0 ≤ (i : Int) by omega), if_pos (show (i : Int) < (o.length : Int) by omega), rd_nat, Loop.wsucc i (by omega), sFree l o hl ho hoff i hi k hk]
        rfl)
    (by intro k _; simp only [spec_PackOk.l1]; rw [if_neg (by omega)])
    l.length 0 k (by omega) (by omega)
  rw [show spec_PackOk.l1 k l o 0 = _ from h]
  cases Loop.allB (fun i => Loop.allB (freeP l o i) l.length 0) l.length 0 <;> rfl
theorem sPackL0 (l : List S72) (o : List Int) (hl : l.length ≤ 1048576) (ho : o.length = l.length) (k : Nat) (hk : 5 * (l.length + 3) ≤ k) : spec_PackOk.l0 k l o 0 = some (packB l o) := by
  have hstep : ∀ k i, 4 * (l.length + 2) ≤ k → i < l.length → spec_PackOk.l0 (k + 1) l o (i : Int) = if offP o i = true then spec_PackOk.l0 k l o ((i + 1 : Nat) : Int) else some false := by
    intro k i _ hi
    simp only [spec_PackOk.l0]
    rw [if_pos (show (i : Int) < (l.length : Int) by omega), if_pos (show 0 ≤ (i : Int) by omega), if_pos (show (i : Int) < (o.length : Int) by omega), rd_nat, Loop.wsucc i (by omega)]
    unfold offP
    by_cases c : inB (o.getD i 0) 0 1000000 = true
    · have := (inB_iff _ _ _).1 c
      rw [if_pos c, if_neg (show ¬ o.getD i 0 < 0 by omega), if_neg (show ¬ o.getD i 0 > 1000000 by omega)]
    · have := mt (inB_iff _ _ _).2 c
      rw [if_neg c]
      by_cases c1 : o.getD i 0 < 0
      · rw [if_pos c1]
      · rw [if_neg c1, if_pos (show o.getD i 0 > 1000000 by omega)]
  unfold packB
  by_cases g : Loop.allB (offP o) l.length 0 = true
  · have hoff : ∀ j, j < l.length → 0 ≤ o.getD j 0 := by
      intro j hj
      have := (Loop.allB_iff _ _ _).1 g j (by omega) (by omega)
      exact ((inB_iff _ _ _).1 this).1
    have h := Loop.all_ix (fun k i => spec_PackOk.l0 k l o i) l.length 1 (4 * (l.length + 2)) (offP o) (some false) (some (Loop.allB (fun i => Loop.allB (freeP l o i) l.length 0) l.length 0))
      hstep (by intro k hk; simp only [spec_PackOk.l0]; rw [if_neg (by omega), sPackL1 l o hl ho hoff k hk]) l.length 0 k (by omega) (by omega)
    rw [show spec_PackOk.l0 k l o 0 = _ from h, if_pos g, g]; rfl
  · -- some offset is out of bounds: the second loop is never reached
    rw [Bool.not_eq_true] at g
    rw [g]
    have : ∀ d i k, i + d = l.length → 4 * (l.length + 2) + (d + 1) ≤ k → Loop.allB (offP o) d i = false → spec_PackOk.l0 k l o (i : Int) = some false := by
      intro d
      induction d with
      | zero => intro i k _ _ e; cases e
      | succ d ih =>
        intro i k h hk e
        obtain ⟨k, rfl⟩ : ∃ m, k = m + 1 := ⟨k - 1, by omega⟩
        rw [hstep k i (by omega) (by omega)]
        by_cases c : offP o i = true
        · rw [if_pos c]
          simp only [Loop.allB, c, Bool.true_and] at e
          exact ih (i + 1) k (by omega) (by omega) e
        · rw [if_neg c]
    exact this l.length 0 k (by omega) (by omega) g
def lowP (l : List S72) (o : List Int) (i : Nat) : Bool := Loop.allB (fun j => !confB l o i j) i 0
theorem iPackLoop (l : List S72) (o : List Int) (hl : l.length ≤ 1048576) (ho : o.length = l.length) : ∀ (d i k : Nat), i + d = l.length → (d + 1) * (l.length + 5) ≤ k → impl_PackOk.l0 k l o l l.length i = some (Loop.allB (fun i => offP o i && lowP l o i) d i) := by
  intro d
  induction d with
  | zero =>
    intro i k h hk
    obtain ⟨k, rfl⟩ : ∃ q, k = q + 1 := ⟨k - 1, by omega⟩
    simp only [impl_PackOk.l0]
    rw [if_neg (by omega)]; rfl
  | succ d ih =>
    intro i k h hk
    have ek : (d + 1 + 1) * (l.length + 5) = (d + 1) * (l.length + 5) + (l.length + 5) := Nat.succ_mul _ _
    obtain ⟨k, rfl⟩ : ∃ q, k = q + 2 := ⟨k - 2, by omega⟩
    simp only [impl_PackOk.l0, impl_PackOk.j2, Loop.allB]
    rw [if_pos (show (i : Int) < (l.length : Int) by omega), if_pos (show 0 ≤ (i : Int) by omega), if_pos (show (i : Int) < (l.length : Int) by omega), if_pos (show (i : Int) < (o.length : Int) by omega), rd_nat]
    have jn : ∀ b : Bool, (if b = true then some false else if 0 ≤ (i : Int) then if (i : Int) ≤ (l.length : Int) then
        (some (List.take (i : Int).toNat l)).bind fun y144 => impl_PackOk.l1 k l o (i : Int) l (l.length : Int) (i : Int) y144 (y144.length : Int) 0 (rd_T72 l (i : Int)).f0 (rd_T72 l (i : Int)).f1 (rd_T72 l (i : Int)).f2 (rd_T72 l (i : Int)).f3
        else none else none) = some (!b && (lowP l o i && Loop.allB (fun i => offP o i && lowP l o i) d (i + 1))) := by
      intro b
      cases b
      · rw [if_neg (by decide), if_pos (show 0 ≤ (i : Int) by omega), if_pos (show (i : Int) ≤ (l.length : Int) by omega), Int.toNat_natCast]
        simp only [Option.bind_some]
        have hlen : (l.take i).length = i := by rw [List.length_take]; omega
        have hg : ∀ j, j < i → (l.take i).getD j z72 = l.getD j z72 := by
          intro j hj
          rw [Loop.getD_lt _ _ _ (by omega), Loop.getD_lt _ _ _ (by omega), List.getElem_take]
        rw [hlen, rdB_nat]
        have hr := Loop.all_ix (fun k j => impl_PackOk.l1 k l o i l l.length i (l.take i) i j (l.getD i z72).f0 (l.getD i z72).f1 (l.getD i z72).f2 (l.getD i z72).f3) i 1 ((d + 1) * (l.length + 5)) (fun j => !confB l o i j) (some false) (some (Loop.allB (fun i => offP o i && lowP l o i) d (i + 1)))
          (by intro k j _ hj
              simp only [impl_PackOk.l1]
              rw [if_pos (show (j : Int) < (i : Int) by omega), if_pos (show 0 ≤ (j : Int) by omega), if_pos (show (j : Int) < ((l.take i).length : Int) by omega), rdB_nat, hg j hj, iMeet, Loop.wsucc j (by omega), rd_nat, rd_nat]
              simp only [Option.bind_some]
              unfold confB
              cases meetB (l.getD i z72) (l.getD j z72)
              · rfl
              · simp only [if_true, Bool.true_and]
                rw [if_pos (show 0 ≤ (i : Int) by omega), if_pos (show (i : Int) < (o.length : Int) by omega), if_pos (show (j : Int) < (o.length : Int) by omega)]
                by_cases c1 : o.getD i 0 < wrap64 (o.getD j 0 + (l.getD j z72).f1)
                · rw [if_pos c1, decide_eq_true c1, Bool.true_and]
                  by_cases c2 : o.getD j 0 < wrap64 (o.getD i 0 + (l.getD i z72).f1)
                  · rw [if_pos c2, decide_eq_true c2]; rfl
                  · rw [if_neg c2, decide_eq_false c2]; rfl
                · rw [if_neg c1, decide_eq_false c1]; rfl)
          (by intro k hk'
              simp only [impl_PackOk.l1]
              rw [if_neg (by omega), Loop.wsucc i (by omega), ih (i + 1) k (by omega) hk'])
          i 0 k (by omega) (by omega)
        rw [show impl_PackOk.l1 k l o i l l.length i (l.take i) i 0 (l.getD i z72).f0 (l.getD i z72).f1 (l.getD i z72).f2 (l.getD i z72).f3 = _ from hr]
        unfold lowP
        cases Loop.allB (fun j => !confB l o i j) i 0 <;> rfl
      · rfl
    unfold offP
    by_cases c1 : o.getD i 0 < 0
    · have c : inB (o.getD i 0) 0 1000000 = false := (inB_not _ _ _).2 (by omega)
      rw [if_pos c1, if_pos trivial, c]; rfl
    · rw [if_neg c1, jn]
      by_cases c : inB (o.getD i 0) 0 1000000 = true
      · have := (inB_iff _ _ _).1 c
        rw [c, decide_eq_false (show ¬ o.getD i 0 > 1000000 by omega)]
        cases lowP l o i <;> rfl
      · have := mt (inB_iff _ _ _).2 c
        rw [Bool.not_eq_true] at c
        rw [c, decide_eq_true (show o.getD i 0 > 1000000 by omega)]; rfl
theorem pack_same (l : List S72) (o : List Int) : Loop.allB (fun i => offP o i && lowP l o i) l.length 0 = packB l o := by
  unfold packB
  rw [Bool.eq_iff_iff, Bool.and_eq_true, Loop.allB_iff, Loop.allB_iff, Loop.allB_iff]
  constructor
  · intro h
    refine ⟨fun j h0 h1 => ?_, fun i h0 h1 => ?_⟩
    · have := h j h0 h1
      rw [Bool.and_eq_true] at this; exact this.1
    · rw [Loop.allB_iff]
      intro j g0 g1
      unfold freeP
      rw [Bool.or_eq_true, decide_eq_true_eq]
      by_cases e : j = i
      · exact .inl e
      · right
        rcases Nat.lt_or_gt_of_ne e with c | c
        · have := h i h0 h1
          rw [Bool.and_eq_true] at this
          exact (Loop.allB_iff _ _ _).1 this.2 j (by omega) (by omega)
        · have := h j g0 g1
          rw [Bool.and_eq_true] at this
          rw [conf_comm]
          exact (Loop.allB_iff _ _ _).1 this.2 i (by omega) (by omega)
  · rintro ⟨h, g⟩ i h0 h1
    rw [Bool.and_eq_true]
    refine ⟨h i h0 h1, ?_⟩
    unfold lowP
    rw [Loop.allB_iff]
    intro j g0 g1
    have := (Loop.allB_iff _ _ _).1 (g i h0 h1) j (by omega) (by omega)
    unfold freeP at this
    rw [Bool.or_eq_true, decide_eq_true_eq] at this
    rcases this with e | e
    · omega
    · exact e
theorem FnExactPackOk (l : List S74) (o : List Int) (h0 : l.length ≤ maxLen) (_ : ∀ x ∈ l, (Lit.int .i64 x.f0).wf = true ∧ (Lit.int .i64 x.f1).wf = true ∧ (Lit.int .i64 x.f2).wf = true ∧ (Lit.int .i64 x.f3).wf = true) (h1 : o.length ≤ maxLen) (_ : ∀ x ∈ o, (Lit.int .i64 x).wf = true) : ∃ k, laws_FnExactPackOk.f k l o = some true := by
  refine ⟨(l.length + 3) * (l.length + 5) + o.length + 10, ?_⟩
  unfold laws_FnExactPackOk.f
  by_cases c1 : (o.length : Int) > 1048576
  · rw [if_pos c1]
  · rw [if_neg c1, szL l _ h0 (by decide) (by decide)]; simp only [Option.bind_some]
    by_cases c0 : (1048576 : Int) < l.length
    · rw [if_pos c0]; rfl
    · rw [if_neg c0, if_neg (by omega)]
      have e5 : (l.length + 3) * (l.length + 5) = (l.length + 1) * (l.length + 5) + (2 * l.length + 10) := by
        rw [show l.length + 3 = (l.length + 1) + 2 by omega, Nat.add_mul]; omega
      have e6 : l.length * 6 ≤ (l.length + 1) * (l.length + 5) + 5 := by
        rcases Nat.eq_zero_or_pos l.length with z | z
        · rw [z]; omega
        · have := Nat.mul_le_mul_left (l.length + 1) (show 6 ≤ l.length + 5 by omega)
          omega
      rw [toL_ok l (by omega) _ (by omega), toIntS_ok o (by omega) _ (by omega)]; simp only [Option.bind_some]
      have hm : (l.map conv).length = l.length := by simp
      have key : ∃ r, spec_PackOk.f ((l.length + 3) * (l.length + 5) + o.length + 10) (l.map conv) o = some r ∧ impl_PackOk.f ((l.length + 3) * (l.length + 5) + o.length + 10) (l.map conv) o = some r := by
        obtain ⟨k, hk⟩ : ∃ k, (l.length + 3) * (l.length + 5) + o.length + 10 = k + 1 := ⟨(l.length + 3) * (l.length + 5) + o.length + 9, rfl⟩
        rw [hk]
        unfold spec_PackOk.f impl_PackOk.f
        rw [sLives _ (by omega) _ (by omega), iLives _ (by omega) _ (by omega)]
        simp only [Option.bind_some, spec_PackOk.j0, impl_PackOk.j0, if_true]
        by_cases g : livesB (l.map conv) = true
        · rw [if_pos g, if_pos g]
          by_cases n : (o.length : Int) = ((l.map conv).length : Int)
          · have nb : ((o.length : Int) != ((l.map conv).length : Int)) = false := by rw [n]; simp
            rw [nb]; simp only [Bool.false_eq_true, if_false]
            rw [sPackL0 _ o (by omega) (by omega) k (by omega), show impl_PackOk.l0 k (l.map conv) o (l.map conv) (l.map conv).length 0 = _ from iPackLoop _ o (by omega) (by omega) (l.map conv).length 0 k (by omega) (by rw [hm]; omega), pack_same]
            exact ⟨_, rfl, rfl⟩
          · have nb : ((o.length : Int) != ((l.map conv).length : Int)) = true := by simpa using n
            rw [nb]; exact ⟨_, rfl, rfl⟩
        · rw [if_neg g, if_neg g]; exact ⟨_, rfl, rfl⟩
      obtain ⟨r, e1, e2⟩ := key
      rw [e1, e2]; simp only [Option.bind_some]
      rw [eqL_ok _ (by omega) _ (by omega), eqIntS_ok o (by omega) _ (by omega)]
      simp

end Go.Proofs.Ytdocahjdpikakaa.Pure
