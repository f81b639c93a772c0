/- laws.FnNear, walked: what is rounded is at most half a unit off, and a whole multiple comes back, at every draw. No condition. -/
import Derived.Test.YtjgokmnhhcpkcaaCur
import Derived.Test.YtjgokmnhhcpkcaaPNearx1
import Derived.Test.YtjgokmnhhcpkcaaPShiftx1
namespace Go.Proofs.Ytjgokmnhhcpkcaa.PFnNear
open Go.RowKit Go.Proofs.Ytjgokmnhhcpkcaa.Aid Go.Proofs.Ytjgokmnhhcpkcaa.Draws Go.Proofs.YtjgokmnhhcpkcaaW.PrintWords Go.Proofs.YtjgokmnhhcpkcaaW.PrintLast Go.Proofs.YtjgokmnhhcpkcaaW.PrintMore
set_option linter.unusedVariables false
set_option linter.unusedSimpArgs false
/-- A whole number's half rounding: q and a rest r of d. -/
def rnd (q r d : Int) : Int := if r > d - r ∨ (r = d - r ∧ q % 2 = 1) then q + 1 else q
theorem rnd_or (q r d : Int) : rnd q r d = q ∨ rnd q r d = q + 1 := by unfold rnd; split <;> simp
/-- n by d to the nearest whole number, of two the even one. -/
def nearI (n d : Int) : Int := if d < 1 ∨ d > 4611686018427387904 then 0 else rnd (n / d) (n % d) d
theorem round_eq (q r d : Int) (hr : 0 ≤ r) (hrd : r < d) (hd : d ≤ 4611686018427387904) (hq : -9223372036854775808 ≤ q) (hq' : q < 9223372036854775807) :
    (if r > (wrap64 (d - r)) then (some (wrap64 (q + 1))) else (if r = (wrap64 (d - r)) then (if (Go.bits .and .i64 q 1) = 1 then (some (wrap64 (q + 1))) else (some q)) else (some q))) = some (rnd q r d) := by
  rw [wid (x := d - r) (by omega) (by omega), wid (x := q + 1) (by omega) (by omega), and_one]
  unfold rnd
  by_cases h1 : r > d - r
  · rw [if_pos h1, if_pos (.inl h1)]
  · rw [if_neg h1]
    by_cases h2 : r = d - r
    · rw [if_pos h2]
      by_cases h3 : q % 2 = 1
      · rw [if_pos h3, if_pos (.inr ⟨h2, h3⟩)]
      · rw [if_neg h3, if_neg (by omega)]
    · rw [if_neg h2, if_neg (by omega)]
/-- The body of Near, for a d that can be. -/
theorem near_body (n d : Int) (hn : -9223372036854775808 ≤ n) (hn' : n ≤ 9223372036854775807) (h1 : 1 ≤ d) (h2 : d ≤ 4611686018427387904) (F : Int → Int → Int → Option Int)
    (hF : ∀ q r, 0 ≤ r → r < d → -9223372036854775808 ≤ q → q < 9223372036854775807 → F q r d = some (rnd q r d)) (hF1 : ∀ q, d = 1 → F q 0 1 = some q) :
    (if (Int.tmod n d) < 0 then ((F (wrap64 ((wrap64 (Int.tdiv n d)) - 1)) (wrap64 ((Int.tmod n d) + d)) d).bind fun t101 => (some t101)) else ((F (wrap64 (Int.tdiv n d)) (Int.tmod n d) d).bind fun t102 => (some t102))) = some (nearI n d) := by
  have e1 := tmod_fix n d (by omega)
  have e2 := tdiv_fix n d (by omega)
  have e3 := tmod_bd n d (by omega)
  have e4 := Int.emod_nonneg n (show d ≠ 0 by omega)
  have e5 := Int.emod_lt_of_pos n (show 0 < d by omega)
  have eN : nearI n d = rnd (n / d) (n % d) d := by unfold nearI; rw [if_neg (by omega)]
  rw [eN]
  by_cases hd : d = 1
  · subst hd
    have : Int.tmod n 1 = 0 := by omega
    rw [this, if_neg (by decide)]
    rw [this, if_neg (by decide)] at e2
    rw [e2, Int.ediv_one, wid hn hn', hF1 _ rfl]
    simp [rnd]
  · have q1 : -4611686018427387904 ≤ n / d := by
      refine Int.le_ediv_of_mul_le (by omega) ?_
      omega
    have q2 : n / d ≤ 4611686018427387904 := by
      refine Int.ediv_le_of_le_mul (by omega) ?_
      omega
    by_cases h : Int.tmod n d < 0
    · rw [if_pos h] at e1 e2 ⊢
      rw [wid (x := Int.tdiv n d) (by omega) (by omega), wid (x := Int.tdiv n d - 1) (by omega) (by omega), wid (x := Int.tmod n d + d) (by omega) (by omega), e1, e2, hF _ _ e4 e5 (by omega) (by omega)]; rfl
    · rw [if_neg h] at e1 e2 ⊢
      rw [wid (x := Int.tdiv n d) (by omega) (by omega), e1, e2, hF _ _ e4 e5 (by omega) (by omega)]; rfl
theorem near_bd (n d B : Int) (h1 : -B ≤ n) (h2 : n ≤ B) (hB : 0 ≤ B) : -B ≤ nearI n d ∧ nearI n d ≤ B := by
  unfold nearI
  by_cases h : d < 1 ∨ d > 4611686018427387904
  · rw [if_pos h]; omega
  · rw [if_neg h]
    have hd : 0 < d := by omega
    have e := Int.mul_ediv_add_emod n d
    have r0 := Int.emod_nonneg n (show d ≠ 0 by omega)
    have r1 := Int.emod_lt_of_pos n hd
    have lo : -B ≤ n / d := by
      refine Int.le_ediv_of_mul_le hd ?_
      have := Int.mul_nonneg hB (show 0 ≤ d - 1 by omega)
      rw [Int.mul_sub, Int.mul_one] at this
      rw [Int.neg_mul]; omega
    have up : n / d ≤ B := by
      refine Int.ediv_le_of_le_mul hd ?_
      have := Int.mul_nonneg hB (show 0 ≤ d - 1 by omega)
      rw [Int.mul_sub, Int.mul_one] at this
      omega
    unfold rnd
    split
    · rename_i c
      refine ⟨by omega, ?_⟩
      by_cases g : n / d = B
      · exfalso
        rw [g] at e
        have : B ≤ d * B := by
          have := Int.mul_nonneg (show 0 ≤ d - 1 by omega) hB
          rw [Int.sub_mul, Int.one_mul] at this; omega
        have r2 : n % d = 0 := by omega
        rw [r2] at c; omega
      · omega
    · exact ⟨lo, up⟩
namespace A
open Go.Proofs.Ytjgokmnhhcpkcaa.PNear
theorem iRound (d q r : Int) (hr : 0 ≤ r) (hrd : r < d) (hd : d ≤ 4611686018427387904) (hq : -9223372036854775808 ≤ q) (hq' : q < 9223372036854775807) : impl_near.f q r d = some (rnd q r d) := round_eq q r d hr hrd hd hq hq'
theorem iround_one (q : Int) : (if (0 : Int) > (wrap64 (1 - 0)) then (some (wrap64 (q + 1))) else (if (0 : Int) = (wrap64 (1 - 0)) then (if (Go.bits .and .i64 q 1) = 1 then (some (wrap64 (q + 1))) else (some q)) else (some q))) = some q := by
  rw [wid (x := 1 - 0) (by decide) (by decide)]; rfl
theorem iNear (k : Nat) (n d : Int) (hn : -9223372036854775808 ≤ n) (hn' : n ≤ 9223372036854775807) : impl_Near.f (k + 1) n d = some (nearI n d) := by
  unfold impl_Near.f
  by_cases h1 : d < 1
  · rw [if_pos h1]; simp only [impl_Near.j0, if_true]; unfold nearI; rw [if_pos (.inl h1)]
  · rw [if_neg h1]
    by_cases h2 : d > 4611686018427387904
    · simp only [impl_Near.j0]; unfold nearI; rw [if_pos (by simpa using h2), if_pos (.inr h2)]
    · simp only [impl_Near.j0]; rw [if_neg (by simpa using h2), if_neg (show ¬ d = 0 by omega)]
      exact near_body n d hn hn' (by omega) (by omega) impl_near.f (fun q r a b c e => iRound d q r a b (by omega) c e) (fun q _ => iround_one q)
theorem near_calls (n d : Int) (hn : -9223372036854775808 ≤ n) (hn' : n ≤ 9223372036854775807) (w : World) : Calls Try.prog 26 #[.int .i64 n, .int .i64 d] w fun e w' => e = .returned (.int .i64 (nearI n d)) ∧ Drawn0 w w' :=
  impl_Near.calls 1 n d _ w (iNear 0 n d hn hn')
end A
namespace B
open Go.Proofs.Ytjgokmnhhcpkcaa.PShift
theorem iRound (d q r : Int) (hr : 0 ≤ r) (hrd : r < d) (hd : d ≤ 4611686018427387904) (hq : -9223372036854775808 ≤ q) (hq' : q < 9223372036854775807) : impl_near.f q r d = some (rnd q r d) := round_eq q r d hr hrd hd hq hq'
theorem iround_one (q : Int) : (if (0 : Int) > (wrap64 (1 - 0)) then (some (wrap64 (q + 1))) else (if (0 : Int) = (wrap64 (1 - 0)) then (if (Go.bits .and .i64 q 1) = 1 then (some (wrap64 (q + 1))) else (some q)) else (some q))) = some q := by
  rw [wid (x := 1 - 0) (by decide) (by decide)]; rfl
theorem pow_bd {j : Nat} (h : j ≤ 62) : 1 ≤ (2 : Int) ^ j ∧ (2 : Int) ^ j ≤ 4611686018427387904 := by
  have h1 : (0 : Int) < 2 ^ j := Int.pow_pos (by decide)
  have h2 := Nat.pow_le_pow_right (show 0 < 2 by decide) h
  have h3 : ((2 ^ j : Nat) : Int) ≤ ((2 ^ 62 : Nat) : Int) := by exact_mod_cast h2
  rw [Int.natCast_pow] at h3
  have h4 : (((2 ^ 62 : Nat)) : Int) = 4611686018427387904 := by decide
  rw [h4] at h3
  exact ⟨by omega, h3⟩
theorem pow_split (j : Nat) (h : j ≤ 62) : (2 : Int) ^ (63 - j) * 2 ^ j = 9223372036854775808 := by
  rw [← Int.pow_add, show 63 - j + j = 63 by omega]; decide
theorem shl_one (n : Int) (h0 : 0 ≤ n) (h : n ≤ 62) : shl .i64 1 n = 2 ^ n.toNat := by
  unfold shl
  have : min n.toNat IntKind.i64.bits = n.toNat := Nat.min_eq_left (by show n.toNat ≤ 64; omega)
  have b := pow_bd (j := n.toNat) (by omega)
  rw [this, Int.one_mul, i64_wrap_id _ (by omega) (by omega)]
theorem shr_i64 (x n : Int) (h0 : 0 ≤ n) (h : n ≤ 62) : shr .i64 x n = x / 2 ^ n.toNat := by
  unfold shr
  have : min n.toNat IntKind.i64.bits = n.toNat := Nat.min_eq_left (by show n.toNat ≤ 64; omega)
  rw [this]
def shiftI (n b : Int) : Int := if b < 0 ∨ b > 62 then 0 else nearI n (2 ^ b.toNat)
theorem iShift (n b : Int) (hn : -9223372036854775808 ≤ n) (hn' : n ≤ 9223372036854775807) : impl_Shift.f n b = some (shiftI n b) := by
  unfold impl_Shift.f shiftI
  by_cases h1 : b < 0
  · rw [if_pos h1, if_pos (.inl h1)]
  · rw [if_neg h1]
    by_cases h2 : b > 62
    · rw [if_pos h2, if_pos (.inr h2)]
    · rw [if_neg h2, if_neg (c := b < 0 ∨ b > 62) (by omega), if_pos (by omega), shl_one b (by omega) (by omega), shr_i64 n b (by omega) (by omega)]
      have hp := pow_bd (j := b.toNat) (by omega)
      have hs := pow_split b.toNat (by omega)
      have hq := pow_bd (j := 63 - b.toNat - 1) (by omega)
      unfold nearI
      rw [if_neg (by omega)]
      have e := Int.mul_ediv_add_emod n (2 ^ b.toNat)
      have r0 := Int.emod_nonneg n (show (2 : Int) ^ b.toNat ≠ 0 by omega)
      have r1 := Int.emod_lt_of_pos n (show (0 : Int) < 2 ^ b.toNat by omega)
      have hsl : shl .i64 (n / 2 ^ b.toNat) b = n / 2 ^ b.toNat * 2 ^ b.toNat := by
        unfold shl
        have m : min b.toNat IntKind.i64.bits = b.toNat := Nat.min_eq_left (by show b.toNat ≤ 64; omega)
        rw [m]
        have c := Int.mul_comm (n / 2 ^ b.toNat) (2 ^ b.toNat)
        have lo : -(2 ^ (63 - b.toNat)) ≤ n / 2 ^ b.toNat := Int.le_ediv_of_mul_le (by omega) (by rw [Int.neg_mul]; omega)
        have lo2 := Int.mul_le_mul_of_nonneg_right lo (show (0 : Int) ≤ 2 ^ b.toNat by omega)
        rw [Int.neg_mul] at lo2
        exact i64_wrap_id _ (by omega) (by omega)
      rw [hsl, wid (x := n - _) (by rw [Int.mul_comm]; omega) (by rw [Int.mul_comm]; omega)]
      have e2 : n - n / 2 ^ b.toNat * 2 ^ b.toNat = n % 2 ^ b.toNat := by rw [Int.mul_comm]; omega
      rw [e2]
      by_cases hb0 : b = 0
      · subst hb0
        have t : (0 : Int).toNat = 0 := rfl
        rw [t, Int.pow_zero, Int.ediv_one, Int.emod_one]
        have := iround_one n
        unfold impl_near.f
        rw [this]; simp [rnd]
      · have h2' : (2 : Int) ≤ 2 ^ b.toNat := by
          obtain ⟨j, hj⟩ : ∃ j, b.toNat = j + 1 := ⟨b.toNat - 1, by omega⟩
          rw [hj, Int.pow_succ]
          have := pow_bd (j := j) (by omega)
          omega
        have q1 : -4611686018427387904 ≤ n / 2 ^ b.toNat := Int.le_ediv_of_mul_le (by omega) (by omega)
        have q2 : n / 2 ^ b.toNat ≤ 4611686018427387904 := Int.ediv_le_of_le_mul (by omega) (by omega)
        rw [iRound _ _ _ r0 r1 (by omega) (by omega) (by omega)]; rfl
theorem shift_calls (n d : Int) (hn : -9223372036854775808 ≤ n) (hn' : n ≤ 9223372036854775807) (w : World) : Calls Try.prog 29 #[.int .i64 n, .int .i64 d] w fun e w' => e = .returned (.int .i64 (shiftI n d)) ∧ Drawn0 w w' :=
  impl_Shift.calls n d _ w (iShift n d hn hn')
end B
theorem near72 : nearI 7 2 = 4 := by decide
/-- What is rounded is at most half a unit off. -/
theorem near_half (n d : Int) (h1 : 1 ≤ d) (h2 : d ≤ 1073741824) : -d ≤ 2 * (n - nearI n d * d) ∧ 2 * (n - nearI n d * d) ≤ d := by
  unfold nearI
  rw [if_neg (by omega)]
  have e := Int.mul_ediv_add_emod n d
  have r0 := Int.emod_nonneg n (show d ≠ 0 by omega)
  have r1 := Int.emod_lt_of_pos n (show 0 < d by omega)
  rw [Int.mul_comm] at e
  unfold rnd
  split
  · rename_i c
    have : (n / d + 1) * d = n / d * d + d := by rw [Int.add_mul, Int.one_mul]
    rw [this]; omega
  · rename_i c
    omega
theorem near_le (n d : Int) (h1 : 1 ≤ d) (h2 : d ≤ 1073741824) (a : -1152921504606846976 ≤ n) (b : n ≤ 1152921504606846976) : -1152921504606846976 ≤ nearI n d ∧ nearI n d ≤ 1152921504606846976 := near_bd n d _ a b (by decide)
theorem shift_back (m : Int) (k : Nat) (hk : k ≤ 20) : B.shiftI (m * 2 ^ k) k = m := by
  unfold B.shiftI
  rw [if_neg (by omega), Int.toNat_natCast]
  have hp : (0 : Int) < 2 ^ k := Int.pow_pos (by decide)
  have hq : (2 : Int) ^ k ≤ 4611686018427387904 := (B.pow_bd (by omega)).2
  unfold nearI
  rw [if_neg (by omega), Int.mul_ediv_cancel _ (by omega), Int.mul_emod_left]
  unfold rnd
  rw [if_neg (by omega)]
attribute [irreducible] nearI B.shiftI
theorem big_calls (A0 : Option Addr) (c0 : Nat) (l0 : List Int) (w : World) :
    Calls Try.prog 15 #[.slice A0 l0.length c0] w fun e w' => e = .returned (.bool (decide (1048576 < (l0.length : Int)))) ∧ w = w' := by
  go_enter Try.func15, Try.ntmps15
  go_wp2
  go_ret
  exact ⟨rfl, rfl⟩
theorem abs_calls (x : Int) (w : World) (h0 : -9223372036854775807 ≤ x) (h1 : x ≤ 9223372036854775807) : Calls Try.prog 27 #[.int .i64 x] w fun e w' => e = .returned (.int .i64 (x.natAbs : Int)) ∧ w = w' := by
  by_cases c : x < 0
  · have d : decide (x < 0) = true := decide_eq_true c
    have e : (x.natAbs : Int) = -x := by omega
    rw [e]
    clear e
    go_enter Try.func27, Try.ntmps27
    go_wp2
    go_ret
    exact ⟨rfl, rfl⟩
  · have d : decide (x < 0) = false := decide_eq_false c
    have e : (x.natAbs : Int) = x := by omega
    rw [e]
    clear e
    go_enter Try.func27, Try.ntmps27
    go_wp2
    go_ret
    exact ⟨rfl, rfl⟩
set_option maxRecDepth 100000 in
set_option maxHeartbeats 1000000 in
theorem at_calls (A0 : Option Addr) (c0 : Nat) (l0 : List Int) (w : World) (hr0 : Kd.C (Kd.int .u8) w A0 l0.length l0) (hg : ∀ x ∈ l0, (Lit.int .u8 x).wf = true) :
    Calls Try.prog 28 #[.slice A0 l0.length c0, .int .i64 0] w fun e w' => ∃ x, e = .returned (.int .i64 x) ∧ 0 ≤ x ∧ x ≤ 255 ∧ w = w' := by
  by_cases c : (0 : Int) < l0.length
  · obtain ⟨ad, ea, hx0⟩ := Kd.at_int hr0 0 (by decide) c
    cases ea
    have hb : 0 ≤ rd l0 0 ∧ rd l0 0 ≤ 255 := by
      have p : 0 < l0.length := by omega
      have hm : rd l0 0 ∈ l0 := by
        show l0.getD 0 0 ∈ l0
        rw [List.getD_eq_getElem?_getD, List.getElem?_eq_getElem p]
        exact List.getElem_mem p
      have := hg _ hm
      simpa [Lit.wf, IntKind.min, IntKind.max, IntKind.signed, IntKind.bits] using this
    have hx : w.cell? ad = some (.int .u8 (rd l0 0)) := hx0
    have p : 0 < l0.length := by omega
    obtain ⟨b0, b1⟩ := hb
    clear hr0 hg hx0
    generalize rd l0 0 = b at *
    go_enter Try.func28, Try.ntmps28
    go_wp2
    go_ret
    exact ⟨_, rfl, b0, b1, rfl⟩
  · have p : l0 = [] := by
      cases l0 with
      | nil => rfl
      | cons a b => simp at c
    subst p
    clear hr0 hg c
    go_enter Try.func28, Try.ntmps28
    go_wp2
    go_ret
    exact ⟨_, rfl, by decide, by decide, rfl⟩
set_option maxRecDepth 100000 in
set_option maxHeartbeats 1000000 in
theorem drawNear_calls (A0 : Option Addr) (c0 : Nat) (l0 : List Int) (w : World) (hr0 : Kd.C (Kd.int .u8) w A0 l0.length l0) (hc0 : l0.length ≤ c0) (hm : l0.length ≤ 140737488351232) :
    Calls Try.prog 25 #[.slice A0 l0.length c0] w fun e w' => ∃ x y, e = .returned (.tuple #[.int .i64 x, .int .i64 y]) ∧ Below w.heap.size w w' := by
  have hN := new_cur A0 c0 l0 w hr0 hc0 hm
  go_enter Try.func25, Try.ntmps25
  go_wp2_with fail
  refine hN.mono ?_
  rintro e w1 ⟨g, rfl, hC⟩
  go_wp2_with fail
  refine (whole_cur hC).mono ?_
  rintro e w' ⟨x, rfl, hC⟩
  go_wp2_with fail
  refine (below_cur hC 40).mono ?_
  rintro e w' ⟨y, rfl, hC, y0, y1⟩
  have y1 := y1 (by decide)
  go_wp2_with fail
  refine (once_cur hC 4).mono ?_
  rintro e w' ⟨b, rfl, hC⟩
  cases b with
  | true =>
    go_wp2_with fail
    refine (pick_cur hC 0 [-1, 4611686018427387904, 4611686018427387905, 4611686018427387903, 3] (by simp) 3).mono ?_
    rintro e w' ⟨y, rfl, hC⟩
    go_wp2_with fail
    go_ret2
    exact ⟨_, _, rfl, hC.below⟩
  | false =>
    go_wp2_with fail
    go_ret2
    exact ⟨_, _, rfl, hC.below⟩
theorem abs_le (n d q : Int) (w : World) (h : -d ≤ 2 * (n - q * d) ∧ 2 * (n - q * d) ≤ d) (hd : ¬ 1073741824 < d) (h3 : ¬ 1152921504606846976 < n) (h4 : ¬ n < -1152921504606846976) :
    Calls Try.prog 27 #[.int .i64 (wrap64 (n - wrap64 (q * d)))] w fun e w' => ∃ x, e = .returned (.int .i64 x) ∧ 0 ≤ x ∧ 2 * x ≤ d ∧ w = w' := by
  obtain ⟨h1, h2⟩ := h
  generalize q * d = y at *
  rw [wid (x := y) (by omega) (by omega), wid (x := n - y) (by omega) (by omega)]
  exact (abs_calls (n - y) w (by omega) (by omega)).mono fun e w' ⟨he, hw⟩ => ⟨_, he, by omega, by omega, hw⟩
theorem shift_is (n b : Int) (w : World) : Calls Try.prog 29 #[.int .i64 (wrap64 (Go.bits .and .i64 n 65535 * 2 ^ (b % 20).toNat)), .int .i64 (b % 20)] w fun e w' => e = .returned (.int .i64 (Go.bits .and .i64 n 65535)) ∧ Drawn0 w w' := by
  have e : Go.bits .and .i64 n 65535 = n % 65536 := and_low 16 (by decide) n
  have m0 : 0 ≤ n % 65536 := Int.emod_nonneg n (by decide)
  have m1 : n % 65536 < 65536 := Int.emod_lt_of_pos n (by decide)
  have k0 := Int.emod_nonneg b (show (20 : Int) ≠ 0 by decide)
  have k1 := Int.emod_lt_of_pos b (show (0 : Int) < 20 by decide)
  rw [e]
  generalize n % 65536 = m at *
  obtain ⟨k, hk⟩ := Int.eq_ofNat_of_zero_le k0
  rw [hk] at k1 ⊢
  have k2 : k ≤ 19 := by omega
  rw [Int.toNat_natCast]
  have hp : (0 : Int) < 2 ^ k := Int.pow_pos (by decide)
  have hq : (2 : Int) ^ k ≤ 524288 := by
    have h := Nat.pow_le_pow_right (show 0 < 2 by decide) k2
    have h3 : ((2 ^ k : Nat) : Int) ≤ ((2 ^ 19 : Nat) : Int) := by exact_mod_cast h
    rw [Int.natCast_pow] at h3
    exact h3
  have hm := Int.mul_le_mul (show m ≤ 65536 by omega) hq (by omega) (by decide)
  have hn := Int.mul_nonneg m0 (show (0 : Int) ≤ 2 ^ k by omega)
  rw [wid (by omega) (by omega)]
  have := B.shift_calls (m * 2 ^ k) (k : Int) (by omega) (by omega) w
  rw [shift_back m k (by omega)] at this
  exact this
set_option maxRecDepth 100000 in
set_option maxHeartbeats 1000000 in
theorem big_ (A0 : Option Addr) (c0 : Nat) (l0 : List Int) (w : World) (h : decide (1048576 < (l0.length : Int)) = true) :
    Calls Try.prog 4 #[.slice A0 l0.length c0] w fun e w' => e = .returned (.bool true) ∧ Below w.heap.size w w' := by
  have hb := big_calls A0 c0 l0 w
  rw [h] at hb
  clear h
  go_enter Try.func4, Try.ntmps4
  go_wp2_with fail
  refine hb.mono ?_
  rintro e w' ⟨rfl, rfl⟩
  go_wp2_with fail
  go_ret
  exact ⟨rfl, Below.refl _ _⟩
set_option maxRecDepth 100000 in
set_option maxHeartbeats 1000000 in
theorem rest_ (A0 : Option Addr) (c0 : Nat) (l0 : List Int) (w : World) (h : decide (1048576 < (l0.length : Int)) = false)
    (hr0 : Kd.C (Kd.int .u8) w A0 l0.length l0) (hc0 : l0.length ≤ c0) (hg : ∀ x ∈ l0, (Lit.int .u8 x).wf = true) :
    Calls Try.prog 4 #[.slice A0 l0.length c0] w fun e w' => e = .returned (.bool true) ∧ Below w.heap.size w w' := by
  have hb := big_calls A0 c0 l0 w
  have m0 : l0.length ≤ 140737488351232 := by have := of_decide_eq_false h; omega
  rw [h] at hb
  clear h
  have hd := drawNear_calls A0 c0 l0 w hr0 hc0 m0
  have HG := Aside0.mk hg
  clear hg
  go_enter Try.func4, Try.ntmps4
  go_wp2_with fail
  refine hb.mono ?_
  rintro e w' ⟨rfl, rfl⟩
  go_wp2_with fail
  refine hd.mono ?_
  rintro e w1 ⟨n, d, rfl, hB⟩
  clear hb hd
  have h72 := A.near_calls 7 2 (by decide) (by decide) w1
  rw [near72] at h72
  go_wp2_with fail
  refine h72.mono ?_
  rintro e w' ⟨rfl, ⟨nd, rfl⟩⟩
  clear h72
  by_cases a1 : d < 1
  · have d1 : decide (d < 1) = true := decide_eq_true a1
    go_wp2_with fail
    go_ret
    exact ⟨rfl, by repeat (first | exact hB | apply pw_below_drewN)⟩
  · have d1 : decide (d < 1) = false := decide_eq_false a1
    by_cases a2 : 1073741824 < d
    · have d2 : decide (1073741824 < d) = true := decide_eq_true a2
      go_wp2_with fail
      go_ret
      exact ⟨rfl, by repeat (first | exact hB | apply pw_below_drewN)⟩
    · have d2 : decide (1073741824 < d) = false := decide_eq_false a2
      by_cases a3 : 1152921504606846976 < n
      · have d3 : decide (1152921504606846976 < n) = true := decide_eq_true a3
        go_wp2_with fail
        go_ret
        exact ⟨rfl, by repeat (first | exact hB | apply pw_below_drewN)⟩
      · have d3 : decide (1152921504606846976 < n) = false := decide_eq_false a3
        by_cases a4 : n < -1152921504606846976
        · have d4 : decide (n < -1152921504606846976) = true := decide_eq_true a4
          go_wp2_with fail
          go_ret
          exact ⟨rfl, by repeat (first | exact hB | apply pw_below_drewN)⟩
        · have d4 : decide (n < -1152921504606846976) = false := decide_eq_false a4
          have hh := near_half n d (by omega) (by omega)
          have HH := Aside0.mk hh
          clear hh a1 a2 a3 a4
          go_wp2_with fail
          refine (A.near_calls n d (by have := of_decide_eq_false d4; omega) (by have := of_decide_eq_false d3; omega) _).mono ?_
          rintro e w' ⟨rfl, ⟨nd, rfl⟩⟩
          go_wp2_with fail
          refine (abs_le n d _ _ HH.out (of_decide_eq_false d2) (of_decide_eq_false d3) (of_decide_eq_false d4)).mono ?_
          rintro e w' ⟨x, rfl, x0, x1, rfl⟩
          have dx : decide (d < 2 * x) = false := decide_eq_false (by omega)
          have x2 : x ≤ 1073741824 := by have := of_decide_eq_false d2; omega
          clear x1
          go_wp2_with fail
          refine (at_calls A0 c0 l0 _ (by repeat (first | exact Kd.C_below hr0 hB | (with_reducible refine Kd.C_drewN ?_ _))) HG.out).mono ?_
          rintro e w' ⟨b, rfl, b0, b1, rfl⟩
          go_wp2_with fail
          refine (shift_is n b _).mono ?_
          rintro e w' ⟨rfl, ⟨nd, rfl⟩⟩
          go_wp2_with fail
          go_ret
          exact ⟨rfl, by repeat (first | exact hB | apply pw_below_drewN)⟩
theorem laws_FnNear.calls (A0 : Option Addr) (c0 : Nat) (l0 : List Int) (r : Bool) (w : World) (hr0 : Kd.C (Kd.int .u8) w A0 l0.length l0) (hc0 : l0.length ≤ c0) (h : (∀ x ∈ l0, (Lit.int .u8 x).wf = true) ∧ true = r) :
    Calls Try.prog 4 #[.slice A0 l0.length c0] w fun e w' => e = .returned (.bool r) ∧ Below w.heap.size w w' := by
  obtain ⟨hg, h⟩ := h
  subst h
  cases h0 : decide (1048576 < (l0.length : Int)) with
  | true => exact big_ A0 c0 l0 w h0
  | false => exact rest_ A0 c0 l0 w h0 hr0 hc0 hg
end Go.Proofs.Ytjgokmnhhcpkcaa.PFnNear
namespace Go.Proofs.Ytjgokmnhhcpkcaa.Pure
theorem FnNear (l0 : List Int) (_ : l0.length ≤ maxLen) (h : ∀ x ∈ l0, (Lit.int .u8 x).wf = true) : (∀ x ∈ l0, (Lit.int .u8 x).wf = true) ∧ true = true := ⟨h, rfl⟩
end Go.Proofs.Ytjgokmnhhcpkcaa.Pure
