/- laws.FnRates, walked: a rate is never above the peak, rises up to the end of the warming and falls from there on, at every draw. No condition. -/
import Derived.Test.YtjgokmnhhcpkcaaCurKeep
import Derived.Test.YtjgokmnhhcpkcaaPRatex1
import Derived.Test.YtjgokmnhhcpkcaaPSchedOkx1
namespace Go.Proofs.Ytjgokmnhhcpkcaa.PFnRates
open Go.RowKit Go.Proofs.Ytjgokmnhhcpkcaa.Aid Go.Proofs.Ytjgokmnhhcpkcaa.Draws Go.Proofs.YtjgokmnhhcpkcaaW.PrintWords Go.Proofs.YtjgokmnhhcpkcaaW.PrintLast Go.Proofs.YtjgokmnhhcpkcaaW.PrintMore
set_option linter.unusedVariables false
set_option linter.unusedSimpArgs false
/-- A whole number's half rounding: q and a rest r of d. -/
def rnd (q r d : Int) : Int := if r > d - r ∨ (r = d - r ∧ q % 2 = 1) then q + 1 else q
theorem rnd_or (q r d : Int) : rnd q r d = q ∨ rnd q r d = q + 1 := by unfold rnd; split <;> simp
/-- n by d to the nearest whole number, of two the even one. -/
def nearI (n d : Int) : Int := if d < 1 ∨ d > 4611686018427387904 then 0 else rnd (n / d) (n % d) d
theorem round_eq (q r d : Int) (hr : 0 ≤ r) (hrd : r < d) (hd : d ≤ 4611686018427387904) (hq : -9223372036854775808 ≤ q) (hq' : q < 9223372036854775807) :
    (if r > (wrap64 (d - r)) then (some (wrap64 (q + 1))) else (if r = (wrap64 (d - r)) then (if (Go.bits .and .i64 q 1) = 1 then (some (wrap64 (q + 1))) else (some q)) else (some q))) = some (rnd q r d) := by
  rw [wid (x := d - r) (by omega) (by omega), wid (x := q + 1) (by omega) (by omega), and_one]
  unfold rnd
  by_cases h1 : r > d - r
  · rw [if_pos h1, if_pos (.inl h1)]
  · rw [if_neg h1]
    by_cases h2 : r = d - r
    · rw [if_pos h2]
      by_cases h3 : q % 2 = 1
      · rw [if_pos h3, if_pos (.inr ⟨h2, h3⟩)]
      · rw [if_neg h3, if_neg (by omega)]
    · rw [if_neg h2, if_neg (by omega)]
/-- The body of Near, for a d that can be. -/
theorem near_body (n d : Int) (hn : -9223372036854775808 ≤ n) (hn' : n ≤ 9223372036854775807) (h1 : 1 ≤ d) (h2 : d ≤ 4611686018427387904) (F : Int → Int → Int → Option Int)
    (hF : ∀ q r, 0 ≤ r → r < d → -9223372036854775808 ≤ q → q < 9223372036854775807 → F q r d = some (rnd q r d)) (hF1 : ∀ q, d = 1 → F q 0 1 = some q) :
    (if (Int.tmod n d) < 0 then ((F (wrap64 ((wrap64 (Int.tdiv n d)) - 1)) (wrap64 ((Int.tmod n d) + d)) d).bind fun t101 => (some t101)) else ((F (wrap64 (Int.tdiv n d)) (Int.tmod n d) d).bind fun t102 => (some t102))) = some (nearI n d) := by
  have e1 := tmod_fix n d (by omega)
  have e2 := tdiv_fix n d (by omega)
  have e3 := tmod_bd n d (by omega)
  have e4 := Int.emod_nonneg n (show d ≠ 0 by omega)
  have e5 := Int.emod_lt_of_pos n (show 0 < d by omega)
  have eN : nearI n d = rnd (n / d) (n % d) d := by unfold nearI; rw [if_neg (by omega)]
  rw [eN]
  by_cases hd : d = 1
  · subst hd
    have : Int.tmod n 1 = 0 := by omega
    rw [this, if_neg (by decide)]
    rw [this, if_neg (by decide)] at e2
    rw [e2, Int.ediv_one, wid hn hn', hF1 _ rfl]
    simp [rnd]
  · have q1 : -4611686018427387904 ≤ n / d := by
      refine Int.le_ediv_of_mul_le (by omega) ?_
      omega
    have q2 : n / d ≤ 4611686018427387904 := by
      refine Int.ediv_le_of_le_mul (by omega) ?_
      omega
    by_cases h : Int.tmod n d < 0
    · rw [if_pos h] at e1 e2 ⊢
      rw [wid (x := Int.tdiv n d) (by omega) (by omega), wid (x := Int.tdiv n d - 1) (by omega) (by omega), wid (x := Int.tmod n d + d) (by omega) (by omega), e1, e2, hF _ _ e4 e5 (by omega) (by omega)]; rfl
    · rw [if_neg h] at e1 e2 ⊢
      rw [wid (x := Int.tdiv n d) (by omega) (by omega), e1, e2, hF _ _ e4 e5 (by omega) (by omega)]; rfl
theorem near_bd (n d B : Int) (h1 : -B ≤ n) (h2 : n ≤ B) (hB : 0 ≤ B) : -B ≤ nearI n d ∧ nearI n d ≤ B := by
  unfold nearI
  by_cases h : d < 1 ∨ d > 4611686018427387904
  · rw [if_pos h]; omega
  · rw [if_neg h]
    have hd : 0 < d := by omega
    have e := Int.mul_ediv_add_emod n d
    have r0 := Int.emod_nonneg n (show d ≠ 0 by omega)
    have r1 := Int.emod_lt_of_pos n hd
    have lo : -B ≤ n / d := by
      refine Int.le_ediv_of_mul_le hd ?_
      have := Int.mul_nonneg hB (show 0 ≤ d - 1 by omega)
      rw [Int.mul_sub, Int.mul_one] at this
      rw [Int.neg_mul]; omega
    have up : n / d ≤ B := by
      refine Int.ediv_le_of_le_mul hd ?_
      have := Int.mul_nonneg hB (show 0 ≤ d - 1 by omega)
      rw [Int.mul_sub, Int.mul_one] at this
      omega
    unfold rnd
    split
    · rename_i c
      refine ⟨by omega, ?_⟩
      by_cases g : n / d = B
      · exfalso
        rw [g] at e
        have : B ≤ d * B := by
          have := Int.mul_nonneg (show 0 ≤ d - 1 by omega) hB
          rw [Int.sub_mul, Int.one_mul] at this; omega
        have r2 : n % d = 0 := by omega
        rw [r2] at c; omega
      · omega
    · exact ⟨lo, up⟩
def inB (a b c : Int) : Bool := decide (b ≤ a) && decide (a ≤ c)
theorem inB_iff (a b c : Int) : inB a b c = true ↔ b ≤ a ∧ a ≤ c := by unfold inB; simp
theorem inB_not (a b c : Int) : inB a b c = false ↔ ¬ (b ≤ a ∧ a ≤ c) := by rw [← inB_iff]; simp
theorem in_body (a b c : Int) : (if a ≥ b then (some (decide (a ≤ c))) else (some false)) = some (inB a b c) := by
  unfold inB
  by_cases h : b ≤ a
  · rw [if_pos h]; simp [h]
  · rw [if_neg h]; simp [h]
theorem ite_and (b c : Bool) : (if b = true then some c else some false) = some (b && c) := by cases b <;> rfl
theorem ite_same {α : Type} (b : Bool) (x : α) : (if b = true then x else x) = x := by cases b <;> rfl
def schedB (a b c d : Int) : Bool := inB a 0 16777216 && (inB b 0 a && (inB d 0 1000000 && inB c 0 d))
theorem sched_bd {a b c d : Int} (h : schedB a b c d = true) : 0 ≤ a ∧ a ≤ 16777216 ∧ 0 ≤ b ∧ b ≤ a ∧ 0 ≤ d ∧ d ≤ 1000000 ∧ 0 ≤ c ∧ c ≤ d := by
  unfold schedB at h
  simp only [Bool.and_eq_true, inB_iff] at h
  omega
def rateI (p l w t x : Int) : Int := if x < w then nearI (p * (x + 1)) w else if x < t then p - nearI ((p - l) * (x - w)) (t - w) else l
theorem near_off (n d : Int) (h1 : 1 ≤ d) (h2 : d ≤ 4611686018427387904) : -d ≤ 2 * (n - nearI n d * d) ∧ 2 * (n - nearI n d * d) ≤ d := by
  unfold nearI
  rw [if_neg (by omega)]
  have e := Int.mul_ediv_add_emod n d
  have r0 := Int.emod_nonneg n (show d ≠ 0 by omega)
  have r1 := Int.emod_lt_of_pos n (show 0 < d by omega)
  rw [Int.mul_comm] at e
  unfold rnd
  split
  · rename_i c
    have : (n / d + 1) * d = n / d * d + d := by rw [Int.add_mul, Int.one_mul]
    rw [this]; omega
  · rename_i c
    omega
theorem near_mono (n m d : Int) (h1 : 1 ≤ d) (h2 : d ≤ 4611686018427387904) (h : n ≤ m) : nearI n d ≤ nearI m d := by
  rcases Int.lt_or_le (nearI m d) (nearI n d) with c | c
  · exfalso
    have a := near_off n d h1 h2
    have b := near_off m d h1 h2
    have k : 0 ≤ (nearI n d - (nearI m d + 1)) * d := Int.mul_nonneg (by omega) (by omega)
    rw [Int.sub_mul, Int.add_mul, Int.one_mul] at k
    have e : n = m := by
      generalize nearI n d * d = y at *
      generalize nearI m d * d = z at *
      omega
    rw [e] at c
    omega
  · exact c
theorem near_mul (m d : Int) (h1 : 1 ≤ d) (h2 : d ≤ 4611686018427387904) : nearI (m * d) d = m := by
  unfold nearI
  rw [if_neg (by omega), Int.mul_ediv_cancel _ (by omega), Int.mul_emod_left]
  unfold rnd
  rw [if_neg (by omega)]
theorem near_nn (n d : Int) (h1 : 1 ≤ d) (h2 : d ≤ 4611686018427387904) (h : 0 ≤ n) : 0 ≤ nearI n d := by
  have a := near_mul 0 d h1 h2
  have b := near_mono 0 n d h1 h2 h
  rw [Int.zero_mul] at a; omega
section
variable {p l w t x : Int}
theorem rate_peak (h : schedB p l w t = true) (x0 : 0 ≤ x) : rateI p l w t x ≤ p := by
  obtain ⟨a1, a2, a3, a4, a5, a6, a7, a8⟩ := sched_bd h
  unfold rateI
  by_cases c : x < w
  · rw [if_pos c]
    have m := near_mono (p * (x + 1)) (p * w) w (by omega) (by omega) (Int.mul_le_mul_of_nonneg_left (by omega) a1)
    rw [near_mul p w (by omega) (by omega)] at m
    exact m
  · rw [if_neg c]
    by_cases c2 : x < t
    · rw [if_pos c2]
      have := near_nn ((p - l) * (x - w)) (t - w) (by omega) (by omega) (Int.mul_nonneg (by omega) (by omega))
      omega
    · rw [if_neg c2]; omega
theorem rate_end (h : schedB p l w t = true) (x0 : t ≤ x) : rateI p l w t x = l := by
  obtain ⟨a1, a2, a3, a4, a5, a6, a7, a8⟩ := sched_bd h
  unfold rateI
  rw [if_neg (by omega), if_neg (by omega)]
theorem rate_up (h : schedB p l w t = true) (x0 : 0 ≤ x) (x1 : x + 1 < w) : rateI p l w t x ≤ rateI p l w t (x + 1) := by
  obtain ⟨a1, a2, a3, a4, a5, a6, a7, a8⟩ := sched_bd h
  unfold rateI
  rw [if_pos (by omega), if_pos x1]
  exact near_mono _ _ w (by omega) (by omega) (Int.mul_le_mul_of_nonneg_left (by omega) a1)
theorem rate_down (h : schedB p l w t = true) (x0 : 0 ≤ x) (x1 : w ≤ x) : rateI p l w t (x + 1) ≤ rateI p l w t x := by
  obtain ⟨a1, a2, a3, a4, a5, a6, a7, a8⟩ := sched_bd h
  unfold rateI
  rw [if_neg (show ¬ x + 1 < w by omega), if_neg (show ¬ x < w by omega)]
  by_cases c : x < t
  · rw [if_pos c]
    by_cases c2 : x + 1 < t
    · rw [if_pos c2]
      have := near_mono ((p - l) * (x - w)) ((p - l) * (x + 1 - w)) (t - w) (by omega) (by omega) (Int.mul_le_mul_of_nonneg_left (by omega) (by omega))
      omega
    · rw [if_neg c2]
      have m := near_mono ((p - l) * (x - w)) ((p - l) * (t - w)) (t - w) (by omega) (by omega) (Int.mul_le_mul_of_nonneg_left (by omega) (by omega))
      rw [near_mul (p - l) (t - w) (by omega) (by omega)] at m
      omega
  · rw [if_neg c, if_neg (by omega)]; omega
end
theorem prod_le {a b A B : Int} (h1 : 0 ≤ a) (h2 : a ≤ A) (h3 : 0 ≤ b) (h4 : b ≤ B) : 0 ≤ a * b ∧ a * b ≤ A * B := ⟨Int.mul_nonneg h1 h3, Int.mul_le_mul h2 h4 h3 (by omega)⟩
namespace R
open Go.Proofs.Ytjgokmnhhcpkcaa.PRate
theorem iIn (a b c : Int) : impl_within.f a b c = some (inB a b c) := in_body a b c
theorem iSched (a b c d : Int) : impl_SchedOk.f a b c d = some (schedB a b c d) := by
  unfold impl_SchedOk.f schedB
  rw [iIn, iIn, iIn, iIn]; simp only [Option.bind_some, ite_and]
theorem iRound (d q r : Int) (hr : 0 ≤ r) (hrd : r < d) (hd : d ≤ 4611686018427387904) (hq : -9223372036854775808 ≤ q) (hq' : q < 9223372036854775807) : impl_near.f q r d = some (rnd q r d) := round_eq q r d hr hrd hd hq hq'
theorem iround_one (q : Int) : (if (0 : Int) > (wrap64 (1 - 0)) then (some (wrap64 (q + 1))) else (if (0 : Int) = (wrap64 (1 - 0)) then (if (Go.bits .and .i64 q 1) = 1 then (some (wrap64 (q + 1))) else (some q)) else (some q))) = some q := by
  rw [wid (x := 1 - 0) (by decide) (by decide)]; rfl
theorem iNear (k : Nat) (n d : Int) (hn : -9223372036854775808 ≤ n) (hn' : n ≤ 9223372036854775807) : impl_Near.f (k + 1) n d = some (nearI n d) := by
  unfold impl_Near.f
  by_cases h1 : d < 1
  · rw [if_pos h1]; simp only [impl_Near.j0, if_true]; unfold nearI; rw [if_pos (.inl h1)]
  · rw [if_neg h1]
    by_cases h2 : d > 4611686018427387904
    · simp only [impl_Near.j0]; unfold nearI; rw [if_pos (by simpa using h2), if_pos (.inr h2)]
    · simp only [impl_Near.j0]; rw [if_neg (by simpa using h2), if_neg (show ¬ d = 0 by omega)]
      exact near_body n d hn hn' (by omega) (by omega) impl_near.f (fun q r a b c e => iRound d q r a b (by omega) c e) (fun q _ => iround_one q)
theorem iRate (p l w t x : Int) (h : schedB p l w t = true) (x0 : 0 ≤ x) (x1 : x ≤ 10000000) : impl_Rate.f 2 p l w t x = some (rateI p l w t x) := by
  obtain ⟨a1, a2, a3, a4, a5, a6, a7, a8⟩ := sched_bd h
  unfold impl_Rate.f rateI
  rw [iSched, h]; simp only [Option.bind_some, if_true, iIn]
  rw [(inB_iff x 0 10000000).2 ⟨x0, x1⟩]
  simp only [impl_Rate.j0, Bool.not_true, Bool.false_eq_true, if_false]
  by_cases c : x < w
  · have b := prod_le a1 a2 (show 0 ≤ x + 1 by omega) (show x + 1 ≤ 1000000 by omega)
    rw [if_pos c, if_pos c, wid (x := x + 1) (by omega) (by omega), wid (x := p * (x + 1)) (by omega) (by omega), iNear 0 _ _ (by omega) (by omega)]; rfl
  · rw [if_neg c, if_neg c]
    by_cases c2 : x < t
    · have b := prod_le (show 0 ≤ p - l by omega) (show p - l ≤ 16777216 by omega) (show 0 ≤ x - w by omega) (show x - w ≤ 1000000 by omega)
      have u := near_bd ((p - l) * (x - w)) (t - w) (16777216 * 1000000) (by omega) (by omega) (by decide)
      rw [if_pos c2, if_pos c2, wid (x := p - l) (by omega) (by omega), wid (x := x - w) (by omega) (by omega), wid (x := t - w) (by omega) (by omega), wid (x := (p - l) * (x - w)) (by omega) (by omega), iNear 0 _ _ (by omega) (by omega)]
      simp only [Option.bind_some]
      rw [wid (by omega) (by omega)]
    · rw [if_neg c2, if_neg c2]
theorem rate_calls (p l w t x : Int) (h : schedB p l w t = true) (x0 : 0 ≤ x) (x1 : x ≤ 10000000) (W : World) :
    Calls Try.prog 31 #[.agg #[.int .i64 p, .int .i64 l, .int .i64 w, .int .i64 t], .int .i64 x] W fun e w' => e = .returned (.int .i64 (rateI p l w t x)) ∧ Below W.heap.size W w' :=
  impl_Rate.calls 2 p l w t x _ W (iRate p l w t x h x0 x1)
end R
namespace S
open Go.Proofs.Ytjgokmnhhcpkcaa.PSchedOk
theorem sIn (a b c : Int) : spec_l5In.f a b c = some (inB a b c) := in_body a b c
theorem sSched (a b c d : Int) : spec_SchedOk.f a b c d = some (schedB a b c d) := by
  unfold spec_SchedOk.f schedB
  rw [sIn, sIn, sIn, sIn]; simp only [Option.bind_some, ite_and]
theorem ok_calls (p l w t : Int) (W : World) : Calls Try.prog 32 #[.agg #[.int .i64 p, .int .i64 l, .int .i64 w, .int .i64 t]] W fun e w' => e = .returned (.bool (schedB p l w t)) ∧ Below W.heap.size W w' :=
  spec_SchedOk.calls p l w t _ W (sSched p l w t)
end S
theorem rate844 : rateI 8 0 4 4 1 = 4 := by decide
attribute [irreducible] rateI schedB
set_option maxRecDepth 100000 in
set_option maxHeartbeats 1000000 in
theorem drawRate_calls (A0 : Option Addr) (c0 : Nat) (l0 : List Int) (w : World) (hr0 : Kd.C (Kd.int .u8) w A0 l0.length l0) (hc0 : l0.length ≤ c0) (hm : l0.length ≤ 140737488351232) :
    Calls Try.prog 30 #[.slice A0 l0.length c0] w fun e w' => ∃ a b c d x, e = .returned (.tuple #[.agg #[.int .i64 a, .int .i64 b, .int .i64 c, .int .i64 d], .int .i64 x]) ∧ Below w.heap.size w w' := by
  have HR := Aside0.mk hr0
  have HM := Aside0.mk hm
  clear hr0 hm
  go_enter Try.func30, Try.ntmps30
  go_wp2_with fail
  refine (new_cur A0 c0 l0 _ (Kd.C_alloc HR.out _) hc0 HM.out).mono ?_
  rintro e w1 ⟨g, rfl, hC⟩
  go_wp2_with fail
  refine (Sched.sched_cur hC).mono ?_
  rintro e w2 ⟨a, b, c, d, rfl, hC⟩
  go_wp2_with fail
  have hg := hC.lt
  refine (below_kc (hC.alloc _) 20).mono ?_
  rintro e w3 ⟨x, rfl, hC, _, _, hK⟩
  obtain ⟨b5, hb5⟩ : ∃ b5, b5 = w2.heap.size := ⟨_, rfl⟩
  have s_ : ∀ o v, (#[Value.int .i64 a, Value.int .i64 b, Value.int .i64 c, Value.int .i64 d])[o]? = some v → w3.cell? ⟨b5, o, none⟩ = some v := fun o v h => by
    subst hb5
    exact (keep_cell hK _ _ (by simp) (by omega)).trans (by unfold World.cell?; rw [show (w2.alloc _).heap[w2.heap.size]? = _ from heap_alloc_new w2 _]; simpa using h)
  have hgb : b5 ≠ g := by omega
  have hlt : b5 < w3.heap.size := Nat.lt_of_lt_of_le (by rw [hb5]; simp) hK.1
  rw [← hb5]
  clear hK hg hb5
  go_wp2_with fail
  refine (once_kc hC 20).mono ?_
  rintro e w4 ⟨q, rfl, hC, hK⟩
  have s_ : ∀ o v, (#[Value.int .i64 a, Value.int .i64 b, Value.int .i64 c, Value.int .i64 d])[o]? = some v → w4.cell? ⟨b5, o, none⟩ = some v := fun o v h => (keep_cell hK _ _ hlt hgb).trans (s_ o v h)
  have hlt := Nat.lt_of_lt_of_le hlt hK.1
  clear hK
  cases q with
  | true =>
    go_wp2_with fail
    refine (pick_kc hC (-1) [10000000, 10000001, 999999] (by simp) 3).mono ?_
    rintro e w5 ⟨y, rfl, hC, hK⟩
    have s_ : ∀ o v, (#[Value.int .i64 a, Value.int .i64 b, Value.int .i64 c, Value.int .i64 d])[o]? = some v → w5.cell? ⟨b5, o, none⟩ = some v := fun o v h => (keep_cell hK _ _ (by simp; omega) hgb).trans ((World.cell?_alloc_lt _ _ _ hlt).trans (s_ o v h))
    have s0 := s_ 0 _ rfl
    have s1 := s_ 1 _ rfl
    have s2 := s_ 2 _ rfl
    have s3 := s_ 3 _ rfl
    have hbl := hC.below
    have r_ : ∀ o v, (#[Value.int .i64 0, Value.int .i64 0, Value.int .i64 0, Value.int .i64 0])[o]? = some v → w5.cell? ⟨w.heap.size, o, none⟩ = some v := fun o v h =>
      (bcell hbl _ _ (by simp)).trans (by unfold World.cell?; rw [show (w.alloc _).heap[w.heap.size]? = _ from heap_alloc_new w _]; simpa using h)
    have r0 := r_ 0 _ rfl
    have r1 := r_ 1 _ rfl
    have r2 := r_ 2 _ rfl
    have r3 := r_ 3 _ rfl
    have f_ : ∀ o, w5.frozen? ⟨w.heap.size, o, none⟩ = false := fun o => (hbl.frozen (p := ⟨w.heap.size, o, none⟩) (by simp)).trans (by simp)
    have f0 := f_ 0
    have f1 := f_ 1
    have f2 := f_ 2
    have f3 := f_ 3
    have hsz : w.heap.size < w5.heap.size := Nat.lt_of_lt_of_le (by simp) hbl.size
    have HBL := Aside0.mk (((below_alloc (Below.refl w.heap.size w) _).trans (hbl.mono (by simp))))
    clear s_ r_ f_ hbl
    simp at r0 r1 r2 r3 s0 s1 s2 s3
    go_wp2_with fail
    refine bodyPost_ret (v := .tuple #[.agg #[.int .i64 a, .int .i64 b, .int .i64 c, .int .i64 d], .int .i64 y]) (by simp [results, Try.results30, go_sem, r0, r1, r2, r3, hsz]) rfl ⟨a, b, c, d, y, rfl, ?_⟩
    exact below_set (below_set (below_set (below_set HBL.out (Nat.le_refl _)) (Nat.le_refl _)) (Nat.le_refl _)) (Nat.le_refl _)
  | false =>
    have s0 := s_ 0 _ rfl
    have s1 := s_ 1 _ rfl
    have s2 := s_ 2 _ rfl
    have s3 := s_ 3 _ rfl
    have hbl := hC.below
    have r_ : ∀ o v, (#[Value.int .i64 0, Value.int .i64 0, Value.int .i64 0, Value.int .i64 0])[o]? = some v → w4.cell? ⟨w.heap.size, o, none⟩ = some v := fun o v h =>
      (bcell hbl _ _ (by simp)).trans (by unfold World.cell?; rw [show (w.alloc _).heap[w.heap.size]? = _ from heap_alloc_new w _]; simpa using h)
    have r0 := r_ 0 _ rfl
    have r1 := r_ 1 _ rfl
    have r2 := r_ 2 _ rfl
    have r3 := r_ 3 _ rfl
    have f_ : ∀ o, w4.frozen? ⟨w.heap.size, o, none⟩ = false := fun o => (hbl.frozen (p := ⟨w.heap.size, o, none⟩) (by simp)).trans (by simp)
    have f0 := f_ 0
    have f1 := f_ 1
    have f2 := f_ 2
    have f3 := f_ 3
    have hsz : w.heap.size < w4.heap.size := Nat.lt_of_lt_of_le (by simp) hbl.size
    have HBL := Aside0.mk (((below_alloc (Below.refl w.heap.size w) _).trans (hbl.mono (by simp))))
    clear s_ r_ f_ hbl
    simp at r0 r1 r2 r3 s0 s1 s2 s3
    go_wp2_with fail
    refine bodyPost_ret (v := .tuple #[.agg #[.int .i64 a, .int .i64 b, .int .i64 c, .int .i64 d], .int .i64 x]) (by simp [results, Try.results30, go_sem, r0, r1, r2, r3, hsz]) rfl ⟨a, b, c, d, x, rfl, ?_⟩
    exact below_set (below_set (below_set (below_set HBL.out (Nat.le_refl _)) (Nat.le_refl _)) (Nat.le_refl _)) (Nat.le_refl _)
theorem big_calls (A0 : Option Addr) (c0 : Nat) (l0 : List Int) (w : World) :
    Calls Try.prog 15 #[.slice A0 l0.length c0] w fun e w' => e = .returned (.bool (decide (1048576 < (l0.length : Int)))) ∧ w = w' := by
  go_enter Try.func15, Try.ntmps15
  go_wp2
  go_ret
  exact ⟨rfl, rfl⟩
set_option maxRecDepth 100000 in
set_option maxHeartbeats 1000000 in
theorem big_ (A0 : Option Addr) (c0 : Nat) (l0 : List Int) (w : World) (h : decide (1048576 < (l0.length : Int)) = true) :
    Calls Try.prog 5 #[.slice A0 l0.length c0] w fun e w' => e = .returned (.bool true) ∧ Below w.heap.size w w' := by
  have hb := big_calls A0 c0 l0 w
  rw [h] at hb
  clear h
  go_enter Try.func5, Try.ntmps5
  go_wp2_with fail
  refine hb.mono ?_
  rintro e w' ⟨rfl, rfl⟩
  go_wp2_with fail
  go_ret
  exact ⟨rfl, Below.refl _ _⟩
def Sb (W : World) (b : Nat) (p l q t : Int) : Prop := b < W.heap.size ∧ W.cell? ⟨b, 0, none⟩ = some (.int .i64 p) ∧ W.cell? ⟨b, 1, none⟩ = some (.int .i64 l) ∧ W.cell? ⟨b, 2, none⟩ = some (.int .i64 q) ∧ W.cell? ⟨b, 3, none⟩ = some (.int .i64 t)
theorem Sb.new (W : World) (p l q t : Int) : Sb (W.alloc (.cells #[.int .i64 p, .int .i64 l, .int .i64 q, .int .i64 t] 32)) W.heap.size p l q t := by
  have h : ∀ o v, (#[Value.int .i64 p, Value.int .i64 l, Value.int .i64 q, Value.int .i64 t])[o]? = some v → (W.alloc (.cells #[.int .i64 p, .int .i64 l, .int .i64 q, .int .i64 t] 32)).cell? ⟨W.heap.size, o, none⟩ = some v := fun o v h => by
    unfold World.cell?; rw [show (W.alloc _).heap[W.heap.size]? = _ from heap_alloc_new W _]; simpa using h
  exact ⟨by simp, h 0 _ rfl, h 1 _ rfl, h 2 _ rfl, h 3 _ rfl⟩
theorem Sb.step {W W' : World} {b : Nat} {p l q t : Int} (h : Sb W b p l q t) (hb : Below W.heap.size W W') : Sb W' b p l q t := by
  obtain ⟨h0, h1, h2, h3, h4⟩ := h
  exact ⟨Nat.lt_of_lt_of_le h0 hb.size, (bcell hb _ _ h0).trans h1, (bcell hb _ _ h0).trans h2, (bcell hb _ _ h0).trans h3, (bcell hb _ _ h0).trans h4⟩
set_option maxRecDepth 100000 in
set_option maxHeartbeats 1000000 in
theorem rest_ (A0 : Option Addr) (c0 : Nat) (l0 : List Int) (w : World) (h : decide (1048576 < (l0.length : Int)) = false)
    (hr0 : Kd.C (Kd.int .u8) w A0 l0.length l0) (hc0 : l0.length ≤ c0) :
    Calls Try.prog 5 #[.slice A0 l0.length c0] w fun e w' => e = .returned (.bool true) ∧ Below w.heap.size w w' := by
  have hb := big_calls A0 c0 l0 w
  have m0 : l0.length ≤ 140737488351232 := by have := of_decide_eq_false h; omega
  rw [h] at hb
  clear h
  have hd := drawRate_calls A0 c0 l0 w hr0 hc0 m0
  go_enter Try.func5, Try.ntmps5
  go_wp2_with fail
  refine hb.mono ?_
  rintro e w' ⟨rfl, rfl⟩
  go_wp2_with fail
  refine hd.mono ?_
  rintro e w1 ⟨p, l, q, t, x, rfl, hB⟩
  clear hb hd
  have HS := Aside0.mk (Sb.new w1 p l q t)
  have HB := Aside0.mk (below_alloc hB (.cells #[.int .i64 p, .int .i64 l, .int .i64 q, .int .i64 t] 32))
  obtain ⟨W, hW⟩ : ∃ W, W = w1.alloc (.cells #[.int .i64 p, .int .i64 l, .int .i64 q, .int .i64 t] 32) := ⟨_, rfl⟩
  obtain ⟨b, hb⟩ : ∃ b, b = w1.heap.size := ⟨_, rfl⟩
  go_wp2_with fail
  rw [← hW, ← hb]
  rw [← hW, ← hb] at HS
  rw [← hW] at HB
  clear hB hW hb
  obtain ⟨hlt, s0, s1, s2, s3⟩ := HS.out
  have h84 := fun W => R.rate_calls 8 0 4 4 1 (by unfold schedB; decide) (by decide) (by decide) W
  rw [rate844] at h84
  refine (h84 _).mono ?_
  rintro e w' ⟨rfl, hb⟩
  have HS := Aside0.mk (HS.out.step hb)
  have HB := Aside0.mk (below_step HB.out hb)
  clear hb
  obtain ⟨hlt, s0, s1, s2, s3⟩ := HS.out
  clear h84
  go_wp2_with fail
  refine (S.ok_calls p l q t _).mono ?_
  rintro e w' ⟨rfl, hb⟩
  have HS := Aside0.mk (HS.out.step hb)
  have HB := Aside0.mk (below_step HB.out hb)
  clear hb
  obtain ⟨hlt, s0, s1, s2, s3⟩ := HS.out
  cases hs : schedB p l q t with
  | false =>
    go_wp2_with fail
    go_ret
    exact ⟨rfl, HB.out⟩
  | true =>
    by_cases a1 : x < 0
    · have d1 : decide (x < 0) = true := decide_eq_true a1
      go_wp2_with fail
      go_ret
      exact ⟨rfl, HB.out⟩
    · have d1 : decide (x < 0) = false := decide_eq_false a1
      by_cases a2 : 10000000 ≤ x
      · have d2 : decide (10000000 ≤ x) = true := decide_eq_true a2
        go_wp2_with fail
        go_ret
        exact ⟨rfl, HB.out⟩
      · have d2 : decide (10000000 ≤ x) = false := decide_eq_false a2
        have x0 : 0 ≤ x := by omega
        have x1 : x < 10000000 := by omega
        have hp : decide (p < rateI p l q t x) = false := by have := rate_peak hs x0; exact decide_eq_false (by omega)
        have HQ := Aside0.mk hs
        clear hs a1 a2
        go_wp2_with fail
        refine (R.rate_calls p l q t x HQ.out x0 (by omega) _).mono ?_
        rintro e w' ⟨rfl, hb⟩
        have HS := Aside0.mk (HS.out.step hb)
        have HB := Aside0.mk (below_step HB.out hb)
        clear hb
        obtain ⟨hlt, s0, s1, s2, s3⟩ := HS.out
        go_wp2_with fail
        refine (R.rate_calls p l q t (x + 1) HQ.out (by omega) (by omega) _).mono ?_
        rintro e w' ⟨rfl, hb⟩
        have HS := Aside0.mk (HS.out.step hb)
        have HB := Aside0.mk (below_step HB.out hb)
        clear hb
        obtain ⟨hlt, s0, s1, s2, s3⟩ := HS.out
        obtain ⟨_, _, _, _, _, _, _, _⟩ := sched_bd HQ.out
        by_cases b1 : t ≤ x
        · have e := rate_end HQ.out b1
          have hd := rate_down HQ.out x0 (by omega)
          have g1 : decide (t ≤ x) = true := decide_eq_true b1
          have g2 : (rateI p l q t x == l) = true := beq_iff_eq.mpr e
          have g3 : (rateI p l q t x != l) = false := bne_eq_false_iff_eq.mpr e
          have g4 : decide (x + 1 < q) = false := decide_eq_false (by omega)
          have g5 : decide (x < q) = false := decide_eq_false (by omega)
          have g6 : decide (rateI p l q t (x + 1) ≤ rateI p l q t x) = true := decide_eq_true hd
          clear e hd b1
          go_wp2_with fail
          go_ret
          exact ⟨by first | rfl | simp [*], HB.out⟩
        · have g1 : decide (t ≤ x) = false := decide_eq_false b1
          by_cases b2 : x + 1 < q
          · have g4 : decide (x + 1 < q) = true := decide_eq_true b2
            have g6 : decide (rateI p l q t x ≤ rateI p l q t (x + 1)) = true := decide_eq_true (rate_up HQ.out x0 b2)
            clear b2 b1
            go_wp2_with fail
            go_ret
            exact ⟨by first | rfl | simp [*], HB.out⟩
          · have g4 : decide (x + 1 < q) = false := decide_eq_false b2
            by_cases b3 : x < q
            · have g5 : decide (x < q) = true := decide_eq_true b3
              clear b1 b2 b3
              go_wp2_with fail
              go_ret
              exact ⟨by first | rfl | simp [*], HB.out⟩
            · have g5 : decide (x < q) = false := decide_eq_false b3
              have g6 : decide (rateI p l q t (x + 1) ≤ rateI p l q t x) = true := decide_eq_true (rate_down HQ.out x0 (by omega))
              clear b1 b2 b3
              go_wp2_with fail
              go_ret
              exact ⟨by first | rfl | simp [*], HB.out⟩
theorem laws_FnRates.calls (A0 : Option Addr) (c0 : Nat) (l0 : List Int) (r : Bool) (w : World) (hr0 : Kd.C (Kd.int .u8) w A0 l0.length l0) (hc0 : l0.length ≤ c0) (h : true = r) :
    Calls Try.prog 5 #[.slice A0 l0.length c0] w fun e w' => e = .returned (.bool r) ∧ Below w.heap.size w w' := by
  subst h
  cases h0 : decide (1048576 < (l0.length : Int)) with
  | true => exact big_ A0 c0 l0 w h0
  | false => exact rest_ A0 c0 l0 w h0 hr0 hc0
end Go.Proofs.Ytjgokmnhhcpkcaa.PFnRates
namespace Go.Proofs.Ytjgokmnhhcpkcaa.Pure
theorem FnRates (l0 : List Int) (_ : l0.length ≤ maxLen) (_ : ∀ x ∈ l0, (Lit.int .u8 x).wf = true) : true = true := rfl
end Go.Proofs.Ytjgokmnhhcpkcaa.Pure
