/- laws.FnExactCacheOk, walked: the program's CacheOk returns what the reference's returns, for every cache. No condition. -/
import Derived.Test.YtkbbgjoohffooaaToIntSS
import Derived.Test.YtkbbgjoohffooaaPCacheOkx1
import Derived.Test.YtkbbgjoohffooaaPeqCachex1
import Derived.Deep.RegionWith
namespace Go.Proofs.Ytkbbgjoohffooaa.PFnExactCacheOk
open Go.RowKit Go.Proofs.Ytkbbgjoohffooaa.Aid Go.Proofs.Ytkbbgjoohffooaa.RowsOf Go.Proofs.Ytkbbgjoohffooaa.ToIntSS Go.Proofs.YtkbbgjoohffooaaW.PrintWords Go.Proofs.YtkbbgjoohffooaaW.PrintLast Go.Proofs.YtkbbgjoohffooaaW.PrintMore
set_option linter.unusedVariables false
set_option linter.unusedSimpArgs false
def inB (a b c : Int) : Bool := decide (b ≤ a) && decide (a ≤ c)
theorem inB_iff (a b c : Int) : inB a b c = true ↔ b ≤ a ∧ a ≤ c := by unfold inB; simp
theorem inB_not (a b c : Int) : inB a b c = false ↔ ¬ (b ≤ a ∧ a ≤ c) := by rw [← inB_iff]; simp
theorem in_body (a b c : Int) : (if a ≥ b then (some (decide (a ≤ c))) else (some false)) = some (inB a b c) := by
  unfold inB
  by_cases h : b ≤ a
  · rw [if_pos h]; simp [h]
  · rw [if_neg h]; simp [h]
theorem ite_and (b c : Bool) : (if b = true then some c else some false) = some (b && c) := by cases b <;> rfl
theorem ite_same {α : Type} (b : Bool) (x : α) : (if b = true then x else x) = x := by cases b <;> rfl
def numP (l : List Int) (i : Nat) : Bool := inB (l.getD i 0) 0 2147483646
def numB (l : List Int) : Bool := Loop.allB (numP l) l.length 0
def rowB (r : List Int) : Bool := numB r && (decide ((r.length : Int) > 0) && decide ((r.length : Int) ≤ 4096))
def rowsP (l : List (List Int)) (i : Nat) : Bool := decide (((l.getD i []).length : Int) = ((l.getD 0 []).length : Int)) && rowB (l.getD i [])
def rowsB (l : List (List Int)) : Bool := Loop.allB (rowsP l) l.length 0 && decide ((l.length : Int) ≤ 4096)
theorem rd_nat (l : List Int) (i : Nat) : rd l (i : Int) = l.getD i 0 := by unfold rd; rw [Int.toNat_natCast]
theorem szI (l : List Int) (a : Int) (hl : l.length ≤ maxLen) (h0 : 0 ≤ a) (h1 : a ≤ 1048576) : laws_szIntS.f l a = some (if a < (l.length : Int) then -1 else a - l.length) := by
  have hm : maxLen = 9223372036854775807 := rfl
  unfold laws_szIntS.f
  rw [wid (by omega) (by omega)]
  by_cases c : a < (l.length : Int)
  · rw [if_pos c, if_pos (by omega)]
  · rw [if_neg c, if_neg (by omega)]
theorem rdL_nat (l : List (List Int)) (i : Nat) : rd_L1 l (i : Int) = l.getD i [] := by unfold rd_L1; rw [Int.toNat_natCast]
theorem szSS (l : List (List Int)) (a : Int) (k : Nat) (hk : 1048580 ≤ k) (hl : l.length ≤ maxLen) (hi : ∀ y ∈ l, y.length ≤ maxLen) (h0 : 0 ≤ a) (h1 : a ≤ 1048576) :
    ∃ t, laws_szIntSS.f k l a = some t ∧ (t < 0 ∨ (0 ≤ t ∧ t ≤ a ∧ l.length ≤ 1048576 ∧ ∀ j, j < l.length → (l.getD j []).length ≤ 1048576)) := by
  have hm : maxLen = 9223372036854775807 := rfl
  unfold laws_szIntSS.f
  rw [wid (by omega) (by omega)]
  by_cases c : a - (l.length : Int) < 0
  · rw [if_pos c]; exact ⟨-1, rfl, .inl (by decide)⟩
  · rw [if_neg c]
    have g : ∀ j, j < l.length → (l.getD j []).length ≤ maxLen := by
      intro j hj
      rw [Loop.getD_lt l j [] hj]; exact hi _ (List.getElem_mem hj)
    have h := Loop.run_ix (fun k i s => if 0 ≤ s ∧ s ≤ 1048576 then laws_szIntSS.l0 k l s i else none) l.length 1 0
      (fun i s => if 0 ≤ s ∧ s ≤ 1048576 then (if s < ((l.getD i []).length : Int) then .inl (some (-1)) else .inr (s - (l.getD i []).length)) else .inl none)
      (fun s => if 0 ≤ s ∧ s ≤ 1048576 then some s else none)
      (by intro k i s _ hi'
          by_cases b : 0 ≤ s ∧ s ≤ 1048576
          · rw [if_pos b, if_pos b]
            simp only [laws_szIntSS.l0]
            rw [if_pos (show (i : Int) < (l.length : Int) by omega), if_pos (show 0 ≤ (i : Int) by omega), rdL_nat, Loop.wsucc i (by omega), szI _ s (g i hi') b.1 b.2]
            simp only [Option.bind_some]
            by_cases c2 : s < ((l.getD i []).length : Int)
            · rw [if_pos c2, if_pos c2, if_pos (by decide)]
            · rw [if_neg c2, if_neg c2, if_neg (by omega)]
              exact (if_pos (by omega)).symm
          · rw [if_neg b, if_neg b])
      (by intro k s _
          by_cases b : 0 ≤ s ∧ s ≤ 1048576
          · rw [if_pos b, if_pos b]; simp only [laws_szIntSS.l0]; rw [if_neg (by omega)]
          · rw [if_neg b, if_neg b])
      l.length 0 k (a - l.length) (by omega) (by omega)
    have hz : (0 : Int) ≤ a - l.length ∧ a - l.length ≤ 1048576 := by omega
    rw [if_pos hz] at h
    rw [show laws_szIntSS.l0 k l (a - l.length) 0 = _ from h]
    exact Loop.run_inv _ _ (fun i s => 0 ≤ s ∧ s ≤ a ∧ ∀ j, j < i → (l.getD j []).length ≤ 1048576)
      (fun r => ∃ t, r = some t ∧ (t < 0 ∨ (0 ≤ t ∧ t ≤ a ∧ l.length ≤ 1048576 ∧ ∀ j, j < l.length → (l.getD j []).length ≤ 1048576))) l.length
      (by intro i s r _ hI e
          rw [if_pos (by omega)] at e
          split at e
          · cases e; exact ⟨-1, rfl, .inl (by decide)⟩
          · cases e)
      (by intro i s s' _ hI e
          rw [if_pos (by omega)] at e
          split at e
          · cases e
          · cases e
            refine ⟨by omega, by omega, fun j hj => ?_⟩
            by_cases ej : j = i
            · subst ej; omega
            · exact hI.2.2 j (by omega))
      (by intro s hI
          rw [if_pos (by omega)]
          exact ⟨s, rfl, .inr ⟨hI.1, hI.2.1, by omega, hI.2.2⟩⟩)
      l.length 0 (a - l.length) (by omega) ⟨by omega, by omega, fun j hj => by omega⟩
theorem sRow (l : List Int) (hl : l.length ≤ 1048576) (k : Nat) (hk : l.length < k) : spec_l5RowOk.f k l = some (rowB l) := by
  have h := Loop.all_ix (fun k i => spec_l5RowOk.l0 k l i) l.length 1 0 (numP l) (some false) (some (decide ((l.length : Int) > 0) && decide ((l.length : Int) ≤ 4096)))
    (by intro k i _ hi
        simp only [spec_l5RowOk.l0]
        rw [if_pos (show (i : Int) < (l.length : Int) by omega), if_pos (show 0 ≤ (i : Int) by omega), rd_nat, Loop.wsucc i (by omega)]
        unfold numP
        by_cases c : inB (l.getD i 0) 0 2147483646 = true
        · have := (inB_iff _ _ _).1 c
          rw [if_pos c, if_neg (show ¬ l.getD i 0 < 0 by omega), if_neg (show ¬ l.getD i 0 ≥ 2147483647 by omega)]
        · have := mt (inB_iff _ _ _).2 c
          rw [if_neg c]
          by_cases c1 : l.getD i 0 < 0
          · rw [if_pos c1]
          · rw [if_neg c1, if_pos (show l.getD i 0 ≥ 2147483647 by omega)])
    (by intro k _; simp only [spec_l5RowOk.l0]; rw [if_neg (by omega)]
        by_cases c : (l.length : Int) > 0
        · rw [if_pos c, decide_eq_true c]; rfl
        · rw [if_neg c, decide_eq_false c]; rfl)
    l.length 0 k (by omega) (by omega)
  unfold spec_l5RowOk.f
  rw [show spec_l5RowOk.l0 k l 0 = _ from h]
  unfold rowB numB; cases Loop.allB (numP l) l.length 0 <;> rfl
theorem sRows (l : List (List Int)) (hl : l.length ≤ 1048576) (hi : ∀ j, j < l.length → (l.getD j []).length ≤ 1048576) (k : Nat) (hk : 2097160 ≤ k) : spec_l5RowsOk.f k l = some (rowsB l) := by
  have h := Loop.all_ix (fun k i => spec_l5RowsOk.l0 k l i) l.length 1 1048577 (rowsP l) (some false) (some (decide ((l.length : Int) ≤ 4096)))
    (by intro k i hk hi'
        simp only [spec_l5RowsOk.l0]
        rw [if_pos (show (i : Int) < (l.length : Int) by omega), if_pos (show 0 ≤ (i : Int) by omega), if_pos (show 0 < (l.length : Int) by omega), rdL_nat, Loop.wsucc i (by omega), sRow _ (hi i hi') k (by have := hi i hi'; omega)]
        unfold rowsP
        have e0 : rd_L1 l 0 = l.getD 0 [] := rfl
        rw [e0]
        simp only [Option.bind_some]
        by_cases c : ((l.getD i []).length : Int) = ((l.getD 0 []).length : Int)
        · rw [if_pos c, decide_eq_true c]; rfl
        · rw [if_neg c, decide_eq_false c]; rfl)
    (by intro k _; simp only [spec_l5RowsOk.l0]; rw [if_neg (by omega)])
    l.length 0 k (by omega) (by omega)
  unfold spec_l5RowsOk.f
  rw [show spec_l5RowsOk.l0 k l 0 = _ from h]
  unfold rowsB; cases Loop.allB (rowsP l) l.length 0 <;> rfl
def cacheB (l0 l1 : List (List Int)) : Bool := decide ((l0.length : Int) = l1.length) && (decide ((l0.length : Int) ≤ 4096) && (Loop.allB (rowsP l0) l0.length 0 && Loop.allB (rowsP l1) l1.length 0))
def Small (l : List (List Int)) : Prop := l.length ≤ 1048576 ∧ ∀ j, j < l.length → (l.getD j []).length ≤ 1048576
theorem sCache (l0 l1 : List (List Int)) (h0 : Small l0) (h1 : Small l1) : spec_CacheOk.f 2097160 l0 l1 = some (cacheB l0 l1) := by
  unfold spec_CacheOk.f cacheB
  by_cases c : (l0.length : Int) = l1.length
  · rw [if_pos c, decide_eq_true c, sRows l0 h0.1 h0.2 _ (by decide), sRows l1 h1.1 h1.2 _ (by decide)]
    simp only [Option.bind_some]
    unfold rowsB
    rw [← c]
    cases Loop.allB (rowsP l0) l0.length 0 <;> cases Loop.allB (rowsP l1) l1.length 0 <;> cases decide ((l0.length : Int) ≤ 4096) <;> rfl
  · rw [if_neg c, decide_eq_false c]; rfl
namespace B
open Go.Proofs.Ytkbbgjoohffooaa.PCacheOk
theorem rdL_nat (l : List (List Int)) (i : Nat) : PCacheOk.rd_L1 l (i : Int) = l.getD i [] := by unfold PCacheOk.rd_L1; rw [Int.toNat_natCast]
theorem iNums (l : List Int) (hl : l.length ≤ 1048576) (k : Nat) (hk : l.length < k) : impl_allNums.f k l = some (numB l) := by
  have h := Loop.all_ix (fun k i => impl_allNums.l0 k l l.length i) l.length 1 0 (numP l) (some false) (some true)
    (by intro k i _ hi
        simp only [impl_allNums.l0, impl_isNum.f]
        rw [if_pos (show (i : Int) < (l.length : Int) by omega), if_pos (show 0 ≤ (i : Int) by omega), if_pos (show (i : Int) < (l.length : Int) by omega), rd_nat, Loop.wsucc i (by omega)]
        have e : (if l.getD i 0 ≥ 0 then some (decide (l.getD i 0 < 2147483647)) else some false) = some (numP l i) := by
          unfold numP inB
          by_cases c1 : l.getD i 0 ≥ 0
          · rw [if_pos c1]; congr 1
            rw [Bool.eq_iff_iff, Bool.and_eq_true, decide_eq_true_eq, decide_eq_true_eq, decide_eq_true_eq]; omega
          · rw [if_neg c1]; congr 1; symm; rw [Bool.and_eq_false_iff, decide_eq_false_iff_not]; left; omega
        rw [e]; simp only [Option.bind_some])
    (by intro k _; simp only [impl_allNums.l0]; rw [if_neg (by omega)])
    l.length 0 k (by omega) (by omega)
  unfold impl_allNums.f
  rw [show impl_allNums.l0 k l l.length 0 = _ from h]
  unfold numB; cases Loop.allB (numP l) l.length 0 <;> rfl
theorem iRows (l : List (List Int)) (hl : l.length ≤ 1048576) (hi : ∀ j, j < l.length → (l.getD j []).length ≤ 1048576) (k : Nat) (hk : 2097160 ≤ k) : impl_rowsOk.f k l = some (Loop.allB (rowsP l) l.length 0) := by
  have h := Loop.all_ix (fun k i => impl_rowsOk.l0 k l l l.length i) l.length 1 1048577 (rowsP l) (some false) (some true)
    (by intro k i hk hi'
        simp only [impl_rowsOk.l0]
        rw [if_pos (show (i : Int) < (l.length : Int) by omega), if_pos (show 0 ≤ (i : Int) by omega), if_pos (show (i : Int) < (l.length : Int) by omega), if_pos (show 0 < (l.length : Int) by omega), rdL_nat, Loop.wsucc i (by omega), iNums _ (hi i hi') k (by have := hi i hi'; omega)]
        unfold rowsP rowB
        have e0 : PCacheOk.rd_L1 l 0 = l.getD 0 [] := rfl
        rw [e0]
        simp only [Option.bind_some]
        by_cases c1 : ((l.getD i []).length : Int) < 1
        · rw [if_pos c1, decide_eq_false (show ¬ ((l.getD i []).length : Int) > 0 by omega), Bool.false_and, Bool.and_false, Bool.and_false]; rfl
        · rw [if_neg c1, decide_eq_true (show ((l.getD i []).length : Int) > 0 by omega)]
          by_cases c2 : ((l.getD i []).length : Int) > 4096
          · rw [if_pos c2, decide_eq_false (show ¬ ((l.getD i []).length : Int) ≤ 4096 by omega), Bool.and_false, Bool.and_false, Bool.and_false]; rfl
          · rw [if_neg c2, decide_eq_true (show ((l.getD i []).length : Int) ≤ 4096 by omega)]
            by_cases c : ((l.getD i []).length : Int) = ((l.getD 0 []).length : Int)
            · rw [if_pos c, decide_eq_true c]; cases numB (l.getD i []) <;> rfl
            · rw [if_neg c, decide_eq_false c]; rfl)
    (by intro k _; simp only [impl_rowsOk.l0]; rw [if_neg (by omega)])
    l.length 0 k (by omega) (by omega)
  unfold impl_rowsOk.f
  rw [show impl_rowsOk.l0 k l l l.length 0 = _ from h]
  cases Loop.allB (rowsP l) l.length 0 <;> rfl
theorem iCache (l0 l1 : List (List Int)) (h0 : Small l0) (h1 : Small l1) : impl_CacheOk.f 2097160 l0 l1 = some (cacheB l0 l1) := by
  unfold impl_CacheOk.f cacheB
  by_cases c : (l0.length : Int) = l1.length
  · rw [if_pos c, decide_eq_true c]
    by_cases c2 : (l0.length : Int) ≤ 4096
    · rw [if_pos c2, decide_eq_true c2, iRows l0 h0.1 h0.2 _ (by decide), iRows l1 h1.1 h1.2 _ (by decide)]
      simp only [Option.bind_some]
      cases Loop.allB (rowsP l0) l0.length 0 <;> cases Loop.allB (rowsP l1) l1.length 0 <;> rfl
    · rw [if_neg c2, decide_eq_false c2]; rfl
  · rw [if_neg c, decide_eq_false c]; rfl
end B
namespace C
open Go.Proofs.Ytkbbgjoohffooaa.PeqCache
theorem rdL_nat (l : List (List Int)) (i : Nat) : PeqCache.rd_L1 l (i : Int) = l.getD i [] := by unfold PeqCache.rd_L1; rw [Int.toNat_natCast]
theorem eqIntS_loop (l : List Int) (hl : l.length ≤ 1048576) : ∀ (d i k : Nat), i + d = l.length → d < k → laws_eqIntS.l0 k l l i = some true := by
  intro d
  induction d with
  | zero =>
    intro i k h hk
    obtain ⟨k, rfl⟩ : ∃ m, k = m + 1 := ⟨k - 1, by omega⟩
    simp only [laws_eqIntS.l0]
    rw [if_neg (by omega)]
  | succ d ih =>
    intro i k h hk
    obtain ⟨k, rfl⟩ : ∃ m, k = m + 1 := ⟨k - 1, by omega⟩
    simp only [laws_eqIntS.l0]
    rw [if_pos (by omega), if_pos (by omega), if_pos (by omega), if_pos trivial, Loop.wsucc i (by omega)]
    exact ih (i + 1) k (by omega) (by omega)
theorem eqIntS_ok (l : List Int) (hl : l.length ≤ 1048576) (k : Nat) (hk : l.length < k) : laws_eqIntS.f k l l = some true := by
  unfold laws_eqIntS.f
  rw [if_pos rfl]
  exact eqIntS_loop l hl l.length 0 k (by omega) hk
theorem eqSS_ok (l : List (List Int)) (hl : l.length ≤ 1048576) (hi : ∀ j, j < l.length → (l.getD j []).length ≤ 1048576) (k : Nat) (hk : 2097160 ≤ k) : laws_eqIntSS.f k l l = some true := by
  unfold laws_eqIntSS.f
  rw [if_pos rfl]
  have h := Loop.all_ix (fun k i => laws_eqIntSS.l0 k l l i) l.length 1 1048577 (fun _ => true) (some false) (some true)
    (by intro k i hk hi'
        simp only [laws_eqIntSS.l0]
        rw [if_pos (show (i : Int) < (l.length : Int) by omega), if_pos (show 0 ≤ (i : Int) by omega), if_pos (show (i : Int) < (l.length : Int) by omega), rdL_nat, eqIntS_ok _ (hi i hi') k (by have := hi i hi'; omega), Loop.wsucc i (by omega)]
        rfl)
    (by intro k _; simp only [laws_eqIntSS.l0]; rw [if_neg (by omega)])
    l.length 0 k (by omega) (by omega)
  rw [show laws_eqIntSS.l0 k l l 0 = _ from h]
  rw [if_pos ((Loop.allB_iff _ _ _).2 fun j _ _ => rfl)]
theorem eqCache_ok (l0 l1 : List (List Int)) (h0 : Small l0) (h1 : Small l1) : laws_eqCache.f 2097160 l0 l1 l0 l1 = some true := by
  unfold laws_eqCache.f
  rw [eqSS_ok l0 h0.1 h0.2 _ (by decide), eqSS_ok l1 h1.1 h1.2 _ (by decide)]; rfl
end C
theorem small_mem {l : List (List Int)} (h : Small l) : ∀ x ∈ l, x.length ≤ 1048576 := by
  intro x hx
  obtain ⟨j, hj, rfl⟩ := List.getElem_of_mem hx
  have := h.2 j hj
  rwa [Loop.getD_lt _ _ _ hj] at this
set_option maxRecDepth 100000 in
set_option maxHeartbeats 1000000 in
theorem toCache_calls (A0 : Option Addr) (c0 : Nat) (l0 : List (List Int)) (A1 : Option Addr) (c1 : Nat) (l1 : List (List Int)) (w : World) (hr0 : Kd.C (Kd.slice 3 (Kd.int .i64)) w A0 l0.length l0) (hc0 : l0.length ≤ c0) (hr1 : Kd.C (Kd.slice 3 (Kd.int .i64)) w A1 l1.length l1) (hc1 : l1.length ≤ c1) (h0 : Small l0) (h1 : Small l1) :
    Calls Try.prog 44 #[.agg #[.slice A0 l0.length c0, .slice A1 l1.length c1]] w fun e w' => ∃ g0 g1, e = .returned (.agg #[.slice (some ⟨g0, 0, none⟩) l0.length l0.length, .slice (some ⟨g1, 0, none⟩) l1.length l1.length]) ∧
      Kd.C (Kd.slice 3 (Kd.int .i64)) w' (some ⟨g0, 0, none⟩) l0.length l0 ∧ Kd.C (Kd.slice 3 (Kd.int .i64)) w' (some ⟨g1, 0, none⟩) l1.length l1 ∧ Below w.heap.size w w' := by
  have HR0 := Aside0.mk hr0
  have HR1 := Aside0.mk hr1
  clear hr0 hr1
  go_enter Try.func44, Try.ntmps44
  have HS0 := Aside0.mk (small_mem h0)
  have HS1 := Aside0.mk (small_mem h1)
  have m0 := h0.1
  have m1 := h1.1
  clear h0 h1
  go_wp2_with fail
  have HB := Aside0.mk (below_alloc (below_alloc (below_alloc (Below.refl w.heap.size w) (.cells #[.slice A0 l0.length c0, .slice A1 l1.length c1] 58)) (.cells #[.slice none 0 0, .slice none 0 0] 61)) (.cells #[.slice none 0 0, .slice none 0 0] 61))
  obtain ⟨W, hW⟩ : ∃ W, W = ((w.alloc (.cells #[.slice A0 l0.length c0, .slice A1 l1.length c1] 58)).alloc (.cells #[.slice none 0 0, .slice none 0 0] 61)).alloc (.cells #[.slice none 0 0, .slice none 0 0] 61) := ⟨_, rfl⟩
  have hsz : W.heap.size = w.heap.size + 1 + 1 + 1 := by rw [hW]; simp
  have k0 : W.heap[w.heap.size]? = some (.cells #[.slice A0 l0.length c0, .slice A1 l1.length c1] 58 (0, 0)) := by
    rw [hW]; exact blk_alloc (blk_alloc (blk_new w _) _) _
  have k1 : W.heap[w.heap.size + 1]? = some (.cells #[.slice none 0 0, .slice none 0 0] 61 (0, 0)) := by
    rw [hW]; have := blk_alloc (blk_new (w.alloc (.cells #[.slice A0 l0.length c0, .slice A1 l1.length c1] 58)) (.cells #[.slice none 0 0, .slice none 0 0] 61)) (.cells #[.slice none 0 0, .slice none 0 0] 61); simpa using this
  have k2 : W.heap[w.heap.size + 1 + 1]? = some (.cells #[.slice none 0 0, .slice none 0 0] 61 (0, 0)) := by
    rw [hW]; have := blk_new ((w.alloc (.cells #[.slice A0 l0.length c0, .slice A1 l1.length c1] 58)).alloc (.cells #[.slice none 0 0, .slice none 0 0] 61)) (.cells #[.slice none 0 0, .slice none 0 0] 61); simpa using this
  rw [← hW]
  rw [← hW] at HB
  clear hW
  obtain ⟨b0, hb0⟩ : ∃ b0, b0 = w.heap.size := ⟨_, rfl⟩
  obtain ⟨b1, hb1⟩ : ∃ b1, b1 = w.heap.size + 1 := ⟨_, rfl⟩
  obtain ⟨b2, hb2⟩ : ∃ b2, b2 = w.heap.size + 1 + 1 := ⟨_, rfl⟩
  have HE := Aside0.mk (show w.heap.size ≤ b0 ∧ w.heap.size ≤ b1 ∧ w.heap.size ≤ b2 ∧ b0 < W.heap.size ∧ b1 < W.heap.size ∧ b2 < W.heap.size by omega)
  have ne1 : b0 ≠ b2 := by omega
  have ne2 : b1 ≠ b2 := by omega
  have K0 := Aside0.mk (hb0 ▸ k0)
  have K1 := Aside0.mk (hb1 ▸ k1)
  have K2 := Aside0.mk (hb2 ▸ k2)
  rw [← hb2, ← hb1, ← hb0]
  clear k0 k1 k2 hb0 hb1 hb2 hsz
  refine (toIntSS_calls A0 c0 l0 W (Kd.C_below HR0.out HB.out) hc0 m0 HS0.out).mono ?_
  rintro e w1 ⟨g0, vs0, rfl, hG, hg, hb⟩
  have HG0 := Aside0.mk hG
  have HGE := Aside0.mk hg
  have K0 := Aside0.mk (blk_below K0.out hb)
  have K1 := Aside0.mk (blk_below K1.out hb)
  have K2 := Aside0.mk (blk_below K2.out hb)
  have HB := Aside0.mk (below_step HB.out hb)
  have HZ := Aside0.mk hb.size
  clear hG hg hb
  have q0 : w1.cell? ⟨b0, 1, none⟩ = some (.slice A1 l1.length c1) := blk_cell K0.out 1
  have q2 : w1.cell? ⟨b2, 0, none⟩ = some (.slice none 0 0) := blk_cell K2.out 0
  have f2 : w1.frozen? ⟨b2, 0, none⟩ = false := blk_frozen K2.out 0
  go_wp2_with fail
  have HG0 := Aside0.mk (HG0.out.far HGE.out (b := b2) (o := 0) HE.out.2.2.2.2.2 (.slice (some ⟨g0, 0, none⟩) l0.length l0.length))
  have K0 := Aside0.mk (blk_far K0.out (p := ⟨b2, 0, none⟩) ne1 (.slice (some ⟨g0, 0, none⟩) l0.length l0.length))
  have K1 := Aside0.mk (blk_far K1.out (p := ⟨b2, 0, none⟩) ne2 (.slice (some ⟨g0, 0, none⟩) l0.length l0.length))
  have K2 := Aside0.mk (blk_put K2.out 0 (.slice (some ⟨g0, 0, none⟩) l0.length l0.length) rfl)
  have HB := Aside0.mk (below_set (j := 0) (v := .slice (some ⟨g0, 0, none⟩) l0.length l0.length) HB.out HE.out.2.2.1)
  clear q0 q2 f2
  have HZ2 := Aside0.mk (show W.heap.size ≤ (w1.setCell ⟨b2, 0, none⟩ (.slice (some ⟨g0, 0, none⟩) l0.length l0.length)).heap.size by simpa [World.setCell] using HZ.out)
  generalize w1.setCell ⟨b2, 0, none⟩ (.slice (some ⟨g0, 0, none⟩) l0.length l0.length) = W1 at *
  refine (toIntSS_calls A1 c1 l1 W1 (Kd.C_below HR1.out HB.out) hc1 m1 HS1.out).mono ?_
  rintro e w2 ⟨g1, vs1, rfl, hG, hg, hb⟩
  have HG1 := Aside0.mk (hG.reads (by omega))
  have hzz := HZ2.out
  have HG0 := Aside0.mk (HG0.out.below hb)
  have K0 := Aside0.mk (blk_below K0.out hb)
  have K1 := Aside0.mk (blk_below K1.out hb)
  have K2 := Aside0.mk (blk_below K2.out hb)
  have HB := Aside0.mk (below_step HB.out hb)
  have HGF := Aside0.mk (fun (b o : Nat) (u : Value) (hlt : b < W.heap.size) => (hG.far (b := b) (o := o) hg (Nat.lt_of_lt_of_le hlt hzz) u))
  have HGE1 := Aside0.mk hg
  have HGG := Aside0.mk hG
  clear hG hg hb hzz
  have q0 : w2.cell? ⟨b2, 0, none⟩ = some (.slice (some ⟨g0, 0, none⟩) l0.length l0.length) := blk_cell K2.out 0
  have q1 : w2.cell? ⟨b2, 1, none⟩ = some (.slice none 0 0) := blk_cell K2.out 1
  have f1 : w2.frozen? ⟨b2, 1, none⟩ = false := blk_frozen K2.out 1
  have q3 : w2.cell? ⟨b1, 0, none⟩ = some (.slice none 0 0) := blk_cell K1.out 0
  have q4 : w2.cell? ⟨b1, 1, none⟩ = some (.slice none 0 0) := blk_cell K1.out 1
  have f3 : w2.frozen? ⟨b1, 0, none⟩ = false := blk_frozen K1.out 0
  have f4 : w2.frozen? ⟨b1, 1, none⟩ = false := blk_frozen K1.out 1
  have hsz1 : b1 < w2.heap.size := blk_lt K1.out
  have ne3 : b2 ≠ b1 := Ne.symm ne2
  go_wp2_with fail
  refine bodyPost_ret (v := .agg #[.slice (some ⟨g0, 0, none⟩) l0.length l0.length, .slice (some ⟨g1, 0, none⟩) l1.length l1.length]) (by simp [results, Try.results44, go_sem, q3, q4, hsz1, ne2, ne3]) rfl ⟨g0, g1, rfl, ?_, ?_, ?_⟩
  · exact (((HG0.out.far HGE.out HE.out.2.2.2.2.2 _).far HGE.out HE.out.2.2.2.2.1 _).far HGE.out HE.out.2.2.2.2.1 _).reads (by omega)
  · have hz := HZ2.out
    exact (((HGG.out.far HGE1.out (Nat.lt_of_lt_of_le HE.out.2.2.2.2.2 hz) _).far HGE1.out (Nat.lt_of_lt_of_le HE.out.2.2.2.2.1 hz) _).far HGE1.out (Nat.lt_of_lt_of_le HE.out.2.2.2.2.1 hz) _).reads (by omega)
  · exact below_set (below_set (below_set HB.out HE.out.2.2.1) HE.out.2.1) HE.out.2.1
theorem sz_calls (A0 : Option Addr) (c0 : Nat) (l0 : List (List Int)) (A1 : Option Addr) (c1 : Nat) (l1 : List (List Int)) (w : World) (hr0 : Kd.C (Kd.slice 3 (Kd.int .i64)) w A0 l0.length l0) (hc0 : l0.length ≤ c0) (hr1 : Kd.C (Kd.slice 3 (Kd.int .i64)) w A1 l1.length l1) (hc1 : l1.length ≤ c1)
    (h0 : l0.length ≤ maxLen) (h0' : ∀ y ∈ l0, y.length ≤ maxLen) (h1 : l1.length ≤ maxLen) (h1' : ∀ y ∈ l1, y.length ≤ maxLen) :
    ∃ t, (t < 0 ∨ (0 ≤ t ∧ Small l0 ∧ Small l1)) ∧ Calls Try.prog 42 #[.agg #[.slice A0 l0.length c0, .slice A1 l1.length c1], .int .i64 1048576] w fun e w' => e = .returned (.int .i64 t) ∧ Below w.heap.size w w' := by
  have key : ∃ t, laws_szCache.f 1048580 l0 l1 1048576 = some t ∧ (t < 0 ∨ (0 ≤ t ∧ Small l0 ∧ Small l1)) := by
    unfold laws_szCache.f
    obtain ⟨t0, e0, r0⟩ := szSS l0 1048576 1048580 (by decide) h0 h0' (by decide) (by decide)
    rw [e0]; simp only [Option.bind_some]
    rcases r0 with r0 | ⟨p0, p1, p2, p3⟩
    · rw [if_pos r0]; exact ⟨-1, rfl, .inl (by decide)⟩
    · rw [if_neg (by omega)]
      obtain ⟨t1, e1, r1⟩ := szSS l1 t0 1048580 (by decide) h1 h1' p0 p1
      rw [e1]; simp only [Option.bind_some]
      rcases r1 with r1 | ⟨q0, q1, q2, q3⟩
      · rw [if_pos r1]; exact ⟨-1, rfl, .inl (by decide)⟩
      · rw [if_neg (by omega)]; exact ⟨t1, rfl, .inr ⟨q0, ⟨p2, p3⟩, q2, q3⟩⟩
  obtain ⟨t, e, ht⟩ := key
  exact ⟨t, ht, laws_szCache.calls 1048580 A0 c0 l0 A1 c1 l1 1048576 t w hr0 hc0 hr1 hc1 e⟩
set_option maxRecDepth 100000 in
set_option maxHeartbeats 1000000 in
theorem law_walk (A0 : Option Addr) (c0 : Nat) (l0 : List (List Int)) (A1 : Option Addr) (c1 : Nat) (l1 : List (List Int)) (w : World) (hr0 : Kd.C (Kd.slice 3 (Kd.int .i64)) w A0 l0.length l0) (hc0 : l0.length ≤ c0) (hr1 : Kd.C (Kd.slice 3 (Kd.int .i64)) w A1 l1.length l1) (hc1 : l1.length ≤ c1)
    (h0 : l0.length ≤ maxLen) (h0' : ∀ y ∈ l0, y.length ≤ maxLen) (h1 : l1.length ≤ maxLen) (h1' : ∀ y ∈ l1, y.length ≤ maxLen) :
    Calls Try.prog 10 #[.agg #[.slice A0 l0.length c0, .slice A1 l1.length c1]] w fun e w' => e = .returned (.bool true) ∧ Below w.heap.size w w' := by
  have HR0 := Aside0.mk hr0
  have HR1 := Aside0.mk hr1
  have HL := Aside0.mk (And.intro h0 (And.intro h0' (And.intro h1 h1')))
  clear hr0 hr1 h0 h0' h1 h1'
  go_enter Try.func10, Try.ntmps10
  go_wp2_with fail
  have HB := Aside0.mk (below_alloc (Below.refl w.heap.size w) (.cells #[.slice A0 l0.length c0, .slice A1 l1.length c1] 58))
  have K0 := Aside0.mk (blk_new w (.cells #[.slice A0 l0.length c0, .slice A1 l1.length c1] 58))
  obtain ⟨W, hW⟩ : ∃ W, W = w.alloc (.cells #[.slice A0 l0.length c0, .slice A1 l1.length c1] 58) := ⟨_, rfl⟩
  obtain ⟨b0, hb0⟩ : ∃ b0, b0 = w.heap.size := ⟨_, rfl⟩
  have K0 : Aside0 (W.heap[b0]? = some (.cells #[.slice A0 l0.length c0, .slice A1 l1.length c1] 58 (0, 0))) := Aside0.mk (by rw [hW, hb0]; exact blk_new w _)
  have HB : Aside0 (Below w.heap.size w W) := Aside0.mk (by rw [hW]; exact below_alloc (Below.refl w.heap.size w) _)
  rw [← hW, ← hb0]
  clear hW hb0
  obtain ⟨t, ht, hsz⟩ := sz_calls A0 c0 l0 A1 c1 l1 W (Kd.C_below HR0.out HB.out) hc0 (Kd.C_below HR1.out HB.out) hc1 HL.out.1 HL.out.2.1 HL.out.2.2.1 HL.out.2.2.2
  refine hsz.mono ?_
  rintro e w1 ⟨rfl, hb⟩
  have K0 := Aside0.mk (blk_below K0.out hb)
  have HB := Aside0.mk (below_step HB.out hb)
  clear hb hsz
  have q0 : w1.cell? ⟨b0, 0, none⟩ = some (.slice A0 l0.length c0) := blk_cell K0.out 0
  have q1 : w1.cell? ⟨b0, 1, none⟩ = some (.slice A1 l1.length c1) := blk_cell K0.out 1
  rcases ht with ht | ⟨ht, s0, s1⟩
  · have d1 : decide (t < 0) = true := decide_eq_true ht
    go_wp2_with fail
    go_ret
    exact ⟨rfl, HB.out⟩
  · have d1 : decide (t < 0) = false := decide_eq_false (by omega)
    have HS := Aside0.mk (And.intro s0 s1)
    clear s0 s1 ht
    have HT := fun W1 (hb : Below w.heap.size w W1) => toCache_calls A0 c0 l0 A1 c1 l1 W1 (Kd.C_below HR0.out hb) hc0 (Kd.C_below HR1.out hb) hc1 HS.out.1 HS.out.2
    go_wp2_with fail
    refine (HT w1 HB.out).mono ?_
    rintro e w2 ⟨g0, g1, rfl, hC0, hC1, hb⟩
    have K0 := Aside0.mk (blk_below K0.out hb)
    have HB := Aside0.mk (below_step HB.out hb)
    clear hb q0 q1
    have q0 : w2.cell? ⟨b0, 0, none⟩ = some (.slice A0 l0.length c0) := blk_cell K0.out 0
    have q1 : w2.cell? ⟨b0, 1, none⟩ = some (.slice A1 l1.length c1) := blk_cell K0.out 1
    go_wp2_with fail
    refine (spec_CacheOk.calls 2097160 _ _ l0 _ _ l1 (cacheB l0 l1) w2 hC0 (Nat.le_refl _) hC1 (Nat.le_refl _) (sCache l0 l1 HS.out.1 HS.out.2)).mono ?_
    rintro e w3 ⟨rfl, hb⟩
    have K0 := Aside0.mk (blk_below K0.out hb)
    have HB := Aside0.mk (below_step HB.out hb)
    clear hb q0 q1 hC0 hC1
    have q0 : w3.cell? ⟨b0, 0, none⟩ = some (.slice A0 l0.length c0) := blk_cell K0.out 0
    have q1 : w3.cell? ⟨b0, 1, none⟩ = some (.slice A1 l1.length c1) := blk_cell K0.out 1
    go_wp2_with fail
    refine (HT w3 HB.out).mono ?_
    rintro e w4 ⟨g2, g3, rfl, hC0, hC1, hb⟩
    have K0 := Aside0.mk (blk_below K0.out hb)
    have HB := Aside0.mk (below_step HB.out hb)
    have HC0 := Aside0.mk hC0
    have HC1 := Aside0.mk hC1
    clear hb q0 q1 hC0 hC1
    go_wp2_with fail
    obtain ⟨V, hV⟩ : ∃ V, V = w4.alloc (.cells #[.slice (some ⟨g2, 0, none⟩) l0.length l0.length, .slice (some ⟨g3, 0, none⟩) l1.length l1.length] 61) := ⟨_, rfl⟩
    obtain ⟨bx, hbx⟩ : ∃ bx, bx = w4.heap.size := ⟨_, rfl⟩
    have KX : Aside0 (V.heap[bx]? = some (.cells #[.slice (some ⟨g2, 0, none⟩) l0.length l0.length, .slice (some ⟨g3, 0, none⟩) l1.length l1.length] 61 (0, 0))) := Aside0.mk (by rw [hV, hbx]; exact blk_new w4 _)
    have K0 : Aside0 (V.heap[b0]? = some (.cells #[.slice A0 l0.length c0, .slice A1 l1.length c1] 58 (0, 0))) := Aside0.mk (by rw [hV]; exact blk_alloc K0.out _)
    have HB : Aside0 (Below w.heap.size w V) := Aside0.mk (by rw [hV]; exact below_alloc HB.out _)
    have HC0 : Aside0 (Kd.C (Kd.slice 3 (Kd.int .i64)) V (some ⟨g2, 0, none⟩) l0.length l0) := Aside0.mk (by rw [hV]; exact Kd.C_alloc HC0.out _)
    have HC1 : Aside0 (Kd.C (Kd.slice 3 (Kd.int .i64)) V (some ⟨g3, 0, none⟩) l1.length l1) := Aside0.mk (by rw [hV]; exact Kd.C_alloc HC1.out _)
    rw [← hV, ← hbx]
    clear hV hbx
    refine (PCacheOk.impl_CacheOk.calls 2097160 _ _ l0 _ _ l1 (cacheB l0 l1) V HC0.out (Nat.le_refl _) HC1.out (Nat.le_refl _) (B.iCache l0 l1 HS.out.1 HS.out.2)).mono ?_
    rintro e w5 ⟨rfl, hb⟩
    have K0 := Aside0.mk (blk_below K0.out hb)
    have KX := Aside0.mk (blk_below KX.out hb)
    have HB := Aside0.mk (below_step HB.out hb)
    have HC0 := Aside0.mk (Kd.C_below HC0.out hb)
    have HC1 := Aside0.mk (Kd.C_below HC1.out hb)
    clear hb
    have q0 : w5.cell? ⟨b0, 0, none⟩ = some (.slice A0 l0.length c0) := blk_cell K0.out 0
    have q1 : w5.cell? ⟨b0, 1, none⟩ = some (.slice A1 l1.length c1) := blk_cell K0.out 1
    have x0 : w5.cell? ⟨bx, 0, none⟩ = some (.slice (some ⟨g2, 0, none⟩) l0.length l0.length) := blk_cell KX.out 0
    have x1 : w5.cell? ⟨bx, 1, none⟩ = some (.slice (some ⟨g3, 0, none⟩) l1.length l1.length) := blk_cell KX.out 1
    generalize cacheB l0 l1 = cb
    go_wp2_with fail
    have HBd := Aside0.mk (below_drew1 HB.out)
    have HCd0 := Aside0.mk (Kd.C_drew HC0.out)
    have HCd1 := Aside0.mk (Kd.C_drew HC1.out)
    have KXd := Aside0.mk (blk_drew KX.out)
    go_region_with (first
      | (go_at_call 44; refine (HT _ HBd.out).mono ?_; rintro e w6 ⟨g4, g5, rfl, hC0', hC1', hb⟩; have HB2 := Aside0.mk (below_step HBd.out hb); have HD0 := Aside0.mk (Kd.C_below HCd0.out hb); have HD1 := Aside0.mk (Kd.C_below HCd1.out hb); have HE0 := Aside0.mk hC0'; have HE1 := Aside0.mk hC1'; have KX2 := Aside0.mk (blk_below KXd.out hb); clear hb hC0' hC1'; have y0 : w6.cell? ⟨bx, 0, none⟩ = some (.slice (some ⟨g2, 0, none⟩) l0.length l0.length) := blk_cell KX2.out 0; have y1 : w6.cell? ⟨bx, 1, none⟩ = some (.slice (some ⟨g3, 0, none⟩) l1.length l1.length) := blk_cell KX2.out 1)
      | (go_at_call 46; refine (PeqCache.laws_eqCache.calls 2097160 _ _ l0 _ _ l1 _ _ l0 _ _ l1 true _ HD0.out (Nat.le_refl _) HD1.out (Nat.le_refl _) HE0.out (Nat.le_refl _) HE1.out (Nat.le_refl _) (C.eqCache_ok l0 l1 HS.out.1 HS.out.2)).mono ?_; rintro e w7 ⟨rfl, hb⟩; have HB3 := Aside0.mk (below_step HB2.out hb); clear hb))
    all_goals
      go_wp2_with fail
      go_ret
      exact ⟨rfl, HB3.out⟩
theorem laws_FnExactCacheOk.calls (A0_0 : Option Addr) (c0_0 : Nat) (l0_0 : List (List Int)) (A0_1 : Option Addr) (c0_1 : Nat) (l0_1 : List (List Int)) (r : Bool) (w : World) (hr0_0 : Kd.C (Kd.slice 3 (Kd.int .i64)) w A0_0 l0_0.length l0_0) (hc0_0 : l0_0.length ≤ c0_0) (hr0_1 : Kd.C (Kd.slice 3 (Kd.int .i64)) w A0_1 l0_1.length l0_1) (hc0_1 : l0_1.length ≤ c0_1) (h : (l0_0.length ≤ maxLen ∧ (∀ y ∈ l0_0, y.length ≤ maxLen) ∧ l0_1.length ≤ maxLen ∧ ∀ y ∈ l0_1, y.length ≤ maxLen) ∧ true = r) :
    Calls Try.prog 10 #[.agg #[.slice A0_0 l0_0.length c0_0, .slice A0_1 l0_1.length c0_1]] w fun e w' => e = .returned (.bool r) ∧ Below w.heap.size w w' := by
  obtain ⟨⟨h1, h2, h3, h4⟩, h⟩ := h
  subst h
  exact law_walk A0_0 c0_0 l0_0 A0_1 c0_1 l0_1 w hr0_0 hc0_0 hr0_1 hc0_1 h1 h2 h3 h4
end Go.Proofs.Ytkbbgjoohffooaa.PFnExactCacheOk
namespace Go.Proofs.Ytkbbgjoohffooaa.Pure
theorem FnExactCacheOk (l0 l1 : List (List Int)) (h0 : l0.length ≤ maxLen) (g0 : ∀ p ∈ l0, p.length ≤ maxLen ∧ ∀ y ∈ p, (Lit.int .i64 y).wf = true) (h1 : l1.length ≤ maxLen) (g1 : ∀ p ∈ l1, p.length ≤ maxLen ∧ ∀ y ∈ p, (Lit.int .i64 y).wf = true) :
    (l0.length ≤ maxLen ∧ (∀ y ∈ l0, y.length ≤ maxLen) ∧ l1.length ≤ maxLen ∧ ∀ y ∈ l1, y.length ≤ maxLen) ∧ true = true := ⟨⟨h0, fun y hy => (g0 y hy).1, h1, fun y hy => (g1 y hy).1⟩, rfl⟩
end Go.Proofs.Ytkbbgjoohffooaa.Pure
