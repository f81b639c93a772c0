/- Rounding as the statements' package spells it (l2Half, l2Close, l2Put), walked: it is putR. No condition. -/
import Derived.Test.YtconefdllomgbaaPFnExactFMulx1
import Derived.Test.YtconefdllomgbaaFPlain
import Derived.Test.YtconefdllomgbaaLoop
namespace Go.Proofs.Ytconefdllomgbaa.FClose
open Go.RowKit Go.Proofs.Ytconefdllomgbaa.PFnExactFMul Go.Proofs.YtconefdllomgbaaW.PrintWords Go.Proofs.YtconefdllomgbaaW.PrintLast Go.Proofs.YtconefdllomgbaaW.PrintMore Go.Proofs.Ytconefdllomgbaa.Aid Go.Proofs.Ytconefdllomgbaa.FPlain
set_option linter.unusedVariables false
set_option linter.unusedSimpArgs false
theorem pow_bd {j : Nat} (h : j ≤ 62) : 1 ≤ (2 : Int) ^ j ∧ (2 : Int) ^ j ≤ 4611686018427387904 := by
  have h1 : (0 : Int) < 2 ^ j := Int.pow_pos (by decide)
  have h2 := Nat.pow_le_pow_right (show 0 < 2 by decide) h
  have h3 : ((2 ^ j : Nat) : Int) ≤ ((2 ^ 62 : Nat) : Int) := by exact_mod_cast h2
  rw [Int.natCast_pow] at h3
  have h4 : (((2 ^ 62 : Nat)) : Int) = 4611686018427387904 := by decide
  rw [h4] at h3
  exact ⟨by omega, h3⟩
theorem pow_split (j : Nat) (h : j ≤ 62) : (2 : Int) ^ (63 - j) * 2 ^ j = 9223372036854775808 := by
  rw [← Int.pow_add, show 63 - j + j = 63 by omega]; decide
theorem shl_one (n : Int) (h0 : 0 ≤ n) (h : n ≤ 62) : shl .i64 1 n = 2 ^ n.toNat := by
  unfold shl
  have : min n.toNat IntKind.i64.bits = n.toNat := Nat.min_eq_left (by show n.toNat ≤ 64; omega)
  have b := pow_bd (j := n.toNat) (by omega)
  rw [this, Int.one_mul, i64_wrap_id _ (by omega) (by omega)]
theorem shr_i64 (x n : Int) (h0 : 0 ≤ n) (h : n ≤ 62) : shr .i64 x n = x / 2 ^ n.toNat := by
  unfold shr
  have : min n.toNat IntKind.i64.bits = n.toNat := Nat.min_eq_left (by show n.toNat ≤ 64; omega)
  rw [this]
theorem cnat (a : Nat) (h : a < 9223372036854775808) : wrap64 (a : Int) = (a : Int) := wid (by omega) (by omega)
theorem half_cast (m : Nat) : (m : Int) / 2 = ((m / 2 : Nat) : Int) := by omega
theorem and1_cast (m : Nat) : Go.bits .and .i64 (m : Int) 1 = ((m % 2 : Nat) : Int) := by rw [and_one]; omega
theorem sHalf_loop (kk : Nat) (hkk : kk ≤ 62) : ∀ (j i m : Nat) (more : Bool) (k : Nat), 1 ≤ i → i + j = kk → m < 4611686018427387904 → j < k → spec_l2Half.l0 k (m : Int) (kk : Int) more (i : Int) = some ((rneS m (2 ^ (j + 1)) more : Nat) : Int) := by
  intro j
  induction j with
  | zero =>
    intro i m more k hi h hm hk
    obtain ⟨k, rfl⟩ : ∃ q, k = q + 1 := ⟨k - 1, by omega⟩
    simp only [spec_l2Half.l0]
    rw [if_neg (by omega), if_neg (by omega), and1_cast, half_cast, and1_cast]
    unfold rneS
    have e2 : 2 ^ (0 + 1) = 2 := rfl
    rw [e2, wid (by omega) (by omega)]
    by_cases b : m % 2 = 1
    · rw [if_pos (by omega)]
      cases more
      · rw [if_neg (by decide)]
        by_cases c : m / 2 % 2 = 1
        · rw [if_pos (by omega), if_pos (.inr ⟨by omega, .inr c⟩)]; rfl
        · rw [if_neg (by omega), if_neg (by simp; omega)]
      · rw [if_pos rfl, if_pos (.inr ⟨by omega, .inl rfl⟩)]; rfl
    · rw [if_neg (by omega), if_neg (by omega)]
  | succ j ih =>
    intro i m more k hi h hm hk
    obtain ⟨k, rfl⟩ : ∃ q, k = q + 1 := ⟨k - 1, by omega⟩
    simp only [spec_l2Half.l0]
    rw [if_pos (by omega), and1_cast, half_cast, Loop.wsucc i (by omega), rneS_half]
    cases more
    · rw [if_neg (by decide), Bool.false_or]
      have : (((m % 2 : Nat) : Int) == 1) = (m % 2 == 1) := by rw [Bool.eq_iff_iff, beq_iff_eq, beq_iff_eq]; omega
      rw [this]
      exact ih (i + 1) (m / 2) _ k (by omega) (by omega) (by omega) (by omega)
    · rw [if_pos rfl, Bool.true_or]
      exact ih (i + 1) (m / 2) _ k (by omega) (by omega) (by omega) (by omega)
theorem sHalf (m : Nat) (kk : Int) (more : Bool) (hm : m < 4611686018427387904) (k : Nat) (hk : 70 < k) : spec_l2Half.f k (m : Int) kk more = some ((rneS m (2 ^ kk.toNat) more : Nat) : Int) := by
  unfold spec_l2Half.f
  by_cases c : kk > 62
  · rw [if_pos c]
    have h1 : 2 ^ 63 ≤ 2 ^ kk.toNat := Nat.pow_le_pow_right (by decide) (by omega)
    have h2 : (2 : Nat) ^ 63 = 9223372036854775808 := by decide
    rw [rneS_small _ _ _ (by omega)]; rfl
  · rw [if_neg c]
    by_cases c0 : kk ≤ 0
    · obtain ⟨k, rfl⟩ : ∃ q, k = q + 1 := ⟨k - 1, by omega⟩
      simp only [spec_l2Half.l0]
      rw [if_neg (by omega), if_pos c0]
      have : kk.toNat = 0 := by omega
      rw [this, Nat.pow_zero, rneS_one]
    · have e : kk = ((kk.toNat : Nat) : Int) := by omega
      rw [e]
      have := sHalf_loop kk.toNat (by omega) (kk.toNat - 1) 1 m more k (by omega) (by omega) hm (by omega)
      rw [show kk.toNat - 1 + 1 = kk.toNat by omega] at this
      rw [Int.toNat_natCast]; exact this
theorem half_calls (m : Nat) (kk : Int) (more : Bool) (hm : m < 4611686018427387904) (w : World) :
    Calls Try.prog 34 #[.int .i64 (m : Int), .int .i64 kk, .bool more] w fun e w' => e = .returned (.int .i64 ((rneS m (2 ^ kk.toNat) more : Nat) : Int)) ∧ Drawn0 w w' :=
  spec_l2Half.calls 71 _ _ _ _ w (sHalf m kk more hm 71 (by decide))
/-- The first loop counts bits. -/
def L1 (m k : Nat) (n x : Int) : Prop := ∃ y : Nat, x = y ∧ bl y ≤ k ∧ n + bl y = bl m
theorem L1_start (m : Nat) : L1 m (bl m) 0 m := ⟨m, rfl, Nat.le_refl _, by omega⟩
theorem L1_step {m k : Nat} {n x : Int} (hm : m < 4611686018427387904) (hn : 0 ≤ n) (h : L1 m k n x) (hx : 0 < x) : ∃ k', k = k' + 1 ∧ L1 m k' (wrap64 (n + 1)) (x / 2) ∧ wrap64 (n + 1) = n + 1 := by
  obtain ⟨y, rfl, h1, h2⟩ := h
  have hb := bl_half y (by omega)
  have hbm : bl m ≤ 62 := bl_le_of (j := 62) hm
  have e : wrap64 (n + 1) = n + 1 := wid (by omega) (by omega)
  exact ⟨k - 1, by omega, ⟨y / 2, by omega, by omega, by omega⟩, e⟩
theorem L1_end {m k : Nat} {n x : Int} (h : L1 m k n x) (hx : ¬ 0 < x) : n = bl m := by
  obtain ⟨y, rfl, h1, h2⟩ := h
  have : y = 0 := by omega
  subst this
  have : bl 0 = 0 := rfl
  omega
theorem low_eq : wrap64 (wrap64 (1 - 127) - 23) = -149 := by unfold wrap64; omega
theorem last_eq (m : Nat) (e : Int) (hm : m < 4611686018427387904) (he : -800 ≤ e ∧ e ≤ 800) :
    wrap64 (wrap64 (wrap64 (e + (bl m : Int)) - 1) - 23) = e + (bl m : Int) - 24 := by
  have hbm : bl m ≤ 62 := bl_le_of (j := 62) hm
  rw [wid (x := e + (bl m : Int)) (by omega) (by omega), wid (x := e + (bl m : Int) - 1) (by omega) (by omega), wid (by omega) (by omega)]; omega
/-- The second loop shifts up to the last place. -/
def L2 (m : Nat) (e : Int) (k : Nat) (x y : Int) : Prop :=
  ∃ z : Nat, x = z ∧ (y - lastOf m e).toNat ≤ k ∧ z * 2 ^ (y - lastOf m e).toNat = m * 2 ^ (e - lastOf m e).toNat ∧ (lastOf m e - y).toNat = (lastOf m e - e).toNat ∧ -900 ≤ y ∧ y ≤ 900
theorem big_lt (m : Nat) (e : Int) (hm : m < 4611686018427387904) : m * 2 ^ (e - lastOf m e).toNat < 4611686018427387904 := by
  have hbm : bl m ≤ 62 := bl_le_of (j := 62) hm
  have h1 : m * 2 ^ (e - lastOf m e).toNat < 2 ^ bl m * 2 ^ (e - lastOf m e).toNat := Nat.mul_lt_mul_of_pos_right (bl_lt m) (Nat.two_pow_pos _)
  rw [← Nat.pow_add] at h1
  have h2 : bl m + (e - lastOf m e).toNat ≤ 62 := by unfold lastOf; omega
  have h3 : 2 ^ (bl m + (e - lastOf m e).toNat) ≤ 2 ^ 62 := Nat.pow_le_pow_right (by decide) h2
  have h4 : (2 : Nat) ^ 62 = 4611686018427387904 := by decide
  omega
theorem last_bd (m : Nat) (e : Int) (hm : m < 4611686018427387904) (he : -800 ≤ e ∧ e ≤ 800) : -149 ≤ lastOf m e ∧ lastOf m e ≤ 900 := by
  have hbm : bl m ≤ 62 := bl_le_of (j := 62) hm
  unfold lastOf; omega
theorem L2_start (m : Nat) (e : Int) (he : -800 ≤ e ∧ e ≤ 800) : L2 m e (e - lastOf m e).toNat m e := ⟨m, rfl, Nat.le_refl _, rfl, rfl, by omega, by omega⟩
theorem L2_step {m : Nat} {e : Int} {k : Nat} {x y : Int} (hm : m < 4611686018427387904) (he : -800 ≤ e ∧ e ≤ 800) (h : L2 m e k x y) (hy : lastOf m e < y) :
    ∃ k', k = k' + 1 ∧ L2 m e k' (wrap64 (x * 2)) (wrap64 (y - 1)) := by
  obtain ⟨z, rfl, h1, h2, h3, h4, h5⟩ := h
  have hb := big_lt m e hm
  have hl := last_bd m e hm he
  obtain ⟨d, hd⟩ : ∃ d, (y - lastOf m e).toNat = d + 1 := ⟨(y - lastOf m e).toNat - 1, by omega⟩
  rw [hd] at h1 h2
  have hp : z * 2 ^ (d + 1) = z * 2 * 2 ^ d := by rw [Nat.pow_succ, Nat.mul_assoc, Nat.mul_comm 2]
  have hz : z * 2 ≤ z * 2 * 2 ^ d := Nat.le_mul_of_pos_right _ (Nat.two_pow_pos _)
  have e1 : wrap64 (y - 1) = y - 1 := wid (by omega) (by omega)
  have e2 : wrap64 ((z : Int) * 2) = ((z * 2 : Nat) : Int) := by rw [wid (by omega) (by omega)]; omega
  refine ⟨k - 1, by omega, z * 2, e2, ?_, ?_, ?_, ?_, ?_⟩ <;> rw [e1]
  · omega
  · rw [show (y - 1 - lastOf m e).toNat = d by omega, ← hp]; exact h2
  · omega
  · omega
  · omega
theorem L2_end {m : Nat} {e : Int} {k : Nat} {x y : Int} (hm : m < 4611686018427387904) (he : -800 ≤ e ∧ e ≤ 800) (h : L2 m e k x y) (hy : ¬ lastOf m e < y) :
    x = ((m * 2 ^ (e - lastOf m e).toNat : Nat) : Int) ∧ (wrap64 (lastOf m e - y)).toNat = (lastOf m e - e).toNat := by
  obtain ⟨z, rfl, h1, h2, h3, h4, h5⟩ := h
  have hl := last_bd m e hm he
  rw [show (y - lastOf m e).toNat = 0 by omega, Nat.pow_zero, Nat.mul_one] at h2
  rw [h2, wid (x := lastOf m e - y) (by omega) (by omega)]
  exact ⟨rfl, by omega⟩
theorem ret_int {a b : Int} (h : a = b) : Ending.returned (.int .i64 a) = .returned (.int .i64 b) := by rw [h]
/-- What the end of the walk comes to. -/
def fin (q L : Int) : Int := if q = 16777216 then (if (L + 151) * 8388608 > 2139095040 then 2139095040 else (L + 151) * 8388608) else if q ≥ 8388608 then (if q - 8388608 + (L + 150) * 8388608 > 2139095040 then 2139095040 else q - 8388608 + (L + 150) * 8388608) else q
theorem fin_eq (m : Nat) (e : Int) (more : Bool) (q : Int) (hm : m < 4611686018427387904) (he : -800 ≤ e ∧ e ≤ 800) (hq : ((keptOf m e more : Nat) : Int) = q) :
    0 ≤ q ∧ q ≤ 16777216 ∧ -149 ≤ lastOf m e ∧ lastOf m e ≤ 900 ∧ ((putR m e more : Nat) : Int) = fin q (lastOf m e) := by
  subst hq
  have hl := last_bd m e hm he
  have hk := kept_le m e more
  refine ⟨by omega, by omega, hl.1, hl.2, ?_⟩
  unfold putR fin
  by_cases z : m = 0
  · subst z
    have : keptOf 0 e more = 0 := by
      unfold keptOf
      rw [Nat.zero_mul, rneS_small _ _ _ (by have := Nat.two_pow_pos (lastOf 0 e - e).toNat; omega)]
    rw [if_pos rfl, this]; rfl
  · rw [if_neg z]
    have hg : keptOf m e more < 8388608 → lastOf m e = -149 := fun h => by
      rcases Int.lt_or_le (-149) (lastOf m e) with c | c
      · have := kept_ge m e more z c
        omega
      · omega
    split
    · split <;> omega
    · split
      · split <;> omega
      · have := hg (by omega); omega
set_option maxRecDepth 100000 in
set_option maxHeartbeats 4000000 in
theorem close_calls (neg : Bool) (m : Nat) (e : Int) (more : Bool) (hm : m < 4611686018427387904) (he : -800 ≤ e) (he' : e ≤ 800) (w : World) :
    Calls Try.prog 36 #[.bool neg, .int .i64 (m : Int), .int .i64 e, .bool more, .int .i64 23, .int .i64 127, .int .i64 255] w fun r w' => r = .returned (.int .i64 ((putR m e more : Nat) : Int)) ∧ Drawn0 w w' := by
  have HM := Aside0.mk hm
  have HE := Aside0.mk (And.intro he he')
  clear hm he he'
  go_enter Try.func36, Try.ntmps36
  go_wp2
  go_loopg [16, 17] (bl m) (fun kq v16 v17 w' => ∃ (x16 : Int) (x17 : Int), v16 = .int .i64 x16 ∧ v17 = .int .i64 x17 ∧ Aside0 (L1 m kq x16 x17) ∧ Aside0 (0 ≤ x16) ∧ Drawn0 w w')
  case atStart => exact ⟨0, m, rfl, rfl, ⟨L1_start m⟩, ⟨by decide⟩, by repeat (first | exact Drawn0.refl _ | apply Drawn0.step)⟩
  case round =>
    obtain ⟨x16, x17, rfl, rfl, HA, HN, ⟨m1, rfl⟩⟩ := hrel
    by_cases c : 0 < x17
    · obtain ⟨k', hk, h', hw⟩ := L1_step HM.out HN.out HA.out c
      have HA' := Aside0.mk h'
      have HN' := Aside0.mk (show 0 ≤ wrap64 (x16 + 1) by have := HN.out; omega)
      have cb : decide (0 < x17) = true := decide_eq_true c
      have HK := Aside0.mk hk
      clear c hk h' hw HA HN
      go_wp2
      go_roundg k'
      case measure => have := HK.out; omega
      case rel => exact ⟨_, _, rfl, rfl, HA', HN', by repeat (first | exact Drawn0.refl _ | apply Drawn0.step)⟩
    · have hn := L1_end HA.out c
      subst hn
      have cb : decide (0 < x17) = false := decide_eq_false c
      clear c HA HN
      go_upto_if 39 with (fail)
      go_cut [18] (fun v18 wc => v18 = .int .i64 (lastOf m e) ∧ Drawn0 w wc)
      case first =>
        have hq := last_eq m e HM.out HE.out
        by_cases c : e + (bl m : Int) - 24 < -149
        · have cb2 : decide (wrap64 (wrap64 (wrap64 (e + (bl m : Int)) - 1) - 23) < -149) = true := by rw [hq]; exact decide_eq_true c
          have hl := Aside0.mk (show lastOf m e = -149 by unfold lastOf; omega)
          clear hq c
          rw [cb2]
          go_wp2
          go_meet
          case rel => exact ⟨by rw [hl.out], by repeat (first | exact Drawn0.refl _ | apply Drawn0.step)⟩
        · have cb2 : decide (wrap64 (wrap64 (wrap64 (e + (bl m : Int)) - 1) - 23) < -149) = false := by rw [hq]; exact decide_eq_false c
          have hl := Aside0.mk (show lastOf m e = wrap64 (wrap64 (wrap64 (e + (bl m : Int)) - 1) - 23) by rw [hq]; unfold lastOf; omega)
          clear hq c
          rw [cb2]
          go_wp2
          go_meet
          case rel => exact ⟨by rw [hl.out], by repeat (first | exact Drawn0.refl _ | apply Drawn0.step)⟩
      case rest =>
        obtain ⟨rfl, ⟨m2, rfl⟩⟩ := hcut
        go_wp2
        go_loopg [1, 2] (e - lastOf m e).toNat (fun kq v1 v2 w' => ∃ (x1 : Int) (x2 : Int), v1 = .int .i64 x1 ∧ v2 = .int .i64 x2 ∧ Aside0 (L2 m e kq x1 x2) ∧ Drawn0 w w')
        case atStart => exact ⟨m, e, rfl, rfl, ⟨L2_start m e HE.out⟩, by repeat (first | exact Drawn0.refl _ | apply Drawn0.step)⟩
        case round =>
          obtain ⟨x1, x2, rfl, rfl, HA, ⟨m3, rfl⟩⟩ := hrel
          by_cases c : lastOf m e < x2
          · obtain ⟨k', hk, h'⟩ := L2_step HM.out HE.out HA.out c
            have HA' := Aside0.mk h'
            have cb3 : decide (lastOf m e < x2) = true := decide_eq_true c
            have HK := Aside0.mk hk
            clear c hk h' HA
            go_wp2
            go_roundg k'
            case measure => have := HK.out; omega
            case rel => exact ⟨_, _, rfl, rfl, HA', by repeat (first | exact Drawn0.refl _ | apply Drawn0.step)⟩
          · obtain ⟨hx, hk⟩ := L2_end HM.out HE.out HA.out c
            subst hx
            have cb3 : decide (lastOf m e < x2) = false := decide_eq_false c
            have hh := half_calls (m * 2 ^ (e - lastOf m e).toNat) (wrap64 (lastOf m e - x2)) more (big_lt m e HM.out)
            rw [hk] at hh
            clear c hk HA
            obtain ⟨q, hq⟩ : ∃ q : Int, ((keptOf m e more : Nat) : Int) = q := ⟨_, rfl⟩
            obtain ⟨X, hX⟩ : ∃ X : Int, ((m * 2 ^ (e - lastOf m e).toNat : Nat) : Int) = X := ⟨_, rfl⟩
            have hh2 : ∀ w, Calls Try.prog 34 #[.int .i64 X, .int .i64 (wrap64 (lastOf m e - x2)), .bool more] w fun e w' => e = .returned (.int .i64 q) ∧ Drawn0 w w' := by
              rw [← hq, ← hX]; exact hh
            have HQ := Aside0.mk hq
            rw [hX]
            clear hh hq hX
            go_wp2_with fail
            refine (hh2 _).mono ?_
            rintro r w' ⟨rfl, ⟨m4, rfl⟩⟩
            have HF := Aside0.mk (fin_eq m e more q HM.out HE.out HQ.out)
            by_cases c1 : q = 16777216
            · subst c1
              have ev : wrap64 (wrap64 (wrap64 (wrap64 (wrap64 (lastOf m e + 1) + 149) + 1) * 8388608)) = (lastOf m e + 151) * 8388608 := by
                obtain ⟨_, _, b1, b2, _⟩ := HF.out
                rw [wid (x := lastOf m e + 1) (by omega) (by omega), wid (x := lastOf m e + 1 + 149) (by omega) (by omega), wid (x := lastOf m e + 1 + 149 + 1) (by omega) (by omega), wid (x := (lastOf m e + 1 + 149 + 1) * 8388608) (by omega) (by omega), wid (by omega) (by omega)]; omega
              by_cases c2 : (lastOf m e + 151) * 8388608 > 2139095040
              · have hv : ((putR m e more : Nat) : Int) = 2139095040 := by rw [HF.out.2.2.2.2]; unfold fin; rw [if_pos rfl, if_pos c2]
                have d2 : decide (2139095040 < wrap64 (wrap64 (wrap64 (wrap64 (wrap64 (lastOf m e + 1) + 149) + 1) * 8388608))) = true := by rw [ev]; exact decide_eq_true c2
                have E := Aside0.mk hv
                clear HF ev c2 hv
                go_wp2_with fail
                go_ret
                exact ⟨ret_int E.out.symm, by repeat (first | exact Drawn0.refl _ | apply Drawn0.step)⟩
              · have hv : ((putR m e more : Nat) : Int) = wrap64 (wrap64 (wrap64 (wrap64 (wrap64 (lastOf m e + 1) + 149) + 1) * 8388608)) := by rw [HF.out.2.2.2.2, ev]; unfold fin; rw [if_pos rfl, if_neg c2]
                have d2 : decide (2139095040 < wrap64 (wrap64 (wrap64 (wrap64 (wrap64 (lastOf m e + 1) + 149) + 1) * 8388608))) = false := by rw [ev]; exact decide_eq_false c2
                have E := Aside0.mk hv
                clear HF ev c2 hv
                go_wp2_with fail
                go_ret
                exact ⟨ret_int E.out.symm, by repeat (first | exact Drawn0.refl _ | apply Drawn0.step)⟩
            · by_cases c3 : 8388608 ≤ q
              · have d1 : (q == 16777216) = false := beq_eq_false_iff_ne.mpr c1
                have d3 : decide (8388608 ≤ q) = true := decide_eq_true c3
                have ev : wrap64 (wrap64 (q - 8388608) + wrap64 (wrap64 (wrap64 (lastOf m e + 149) + 1) * 8388608)) = q - 8388608 + (lastOf m e + 150) * 8388608 := by
                  obtain ⟨_, _, b1, b2, _⟩ := HF.out
                  rw [wid (x := q - 8388608) (by omega) (by omega), wid (x := lastOf m e + 149) (by omega) (by omega), wid (x := lastOf m e + 149 + 1) (by omega) (by omega), wid (x := (lastOf m e + 149 + 1) * 8388608) (by omega) (by omega), wid (by omega) (by omega)]; omega
                by_cases c2 : q - 8388608 + (lastOf m e + 150) * 8388608 > 2139095040
                · have hv : ((putR m e more : Nat) : Int) = 2139095040 := by rw [HF.out.2.2.2.2]; unfold fin; rw [if_neg c1, if_pos c3, if_pos c2]
                  have d2 : decide (2139095040 < wrap64 (wrap64 (q - 8388608) + wrap64 (wrap64 (wrap64 (lastOf m e + 149) + 1) * 8388608))) = true := by rw [ev]; exact decide_eq_true c2
                  have E := Aside0.mk hv
                  clear HF ev c1 c2 c3 hv
                  go_wp2_with fail
                  go_ret
                  exact ⟨ret_int E.out.symm, by repeat (first | exact Drawn0.refl _ | apply Drawn0.step)⟩
                · have hv : ((putR m e more : Nat) : Int) = wrap64 (wrap64 (q - 8388608) + wrap64 (wrap64 (wrap64 (lastOf m e + 149) + 1) * 8388608)) := by rw [HF.out.2.2.2.2, ev]; unfold fin; rw [if_neg c1, if_pos c3, if_neg c2]
                  have d2 : decide (2139095040 < wrap64 (wrap64 (q - 8388608) + wrap64 (wrap64 (wrap64 (lastOf m e + 149) + 1) * 8388608))) = false := by rw [ev]; exact decide_eq_false c2
                  have E := Aside0.mk hv
                  clear HF ev c1 c2 c3 hv
                  go_wp2_with fail
                  go_ret
                  exact ⟨ret_int E.out.symm, by repeat (first | exact Drawn0.refl _ | apply Drawn0.step)⟩
              · have d1 : (q == 16777216) = false := beq_eq_false_iff_ne.mpr c1
                have d3 : decide (8388608 ≤ q) = false := decide_eq_false c3
                have d4 : decide (2139095040 < q) = false := decide_eq_false (by omega)
                have hv : ((putR m e more : Nat) : Int) = q := by rw [HF.out.2.2.2.2]; unfold fin; rw [if_neg c1, if_neg c3]
                have E := Aside0.mk hv
                clear HF c1 c3 hv
                go_wp2_with fail
                go_ret
                exact ⟨ret_int E.out.symm, by repeat (first | exact Drawn0.refl _ | apply Drawn0.step)⟩
end Go.Proofs.Ytconefdllomgbaa.FClose
