/- laws.FnExactJoint, walked: the program's Joint returns what the reference's returns, for every two slices of ints. No condition. -/
import Derived.Test.YtkbbgjoohffooaaJointI
import Derived.Test.YtkbbgjoohffooaaPFnExactCacheOkx1
namespace Go.Proofs.Ytkbbgjoohffooaa.PFnExactJoint
open Go.RowKit Go.Proofs.Ytkbbgjoohffooaa.Aid Go.Proofs.Ytkbbgjoohffooaa.JointP Go.Proofs.YtkbbgjoohffooaaW.PrintWords Go.Proofs.YtkbbgjoohffooaaW.PrintLast Go.Proofs.YtkbbgjoohffooaaW.PrintMore
set_option linter.unusedVariables false
set_option linter.unusedSimpArgs false
set_option maxRecDepth 100000 in
set_option maxHeartbeats 1000000 in
theorem spec_calls (A0 : Option Addr) (c0 : Nat) (a : List Int) (A1 : Option Addr) (c1 : Nat) (b : List Int) (w : World) (hr0 : Kd.C (Kd.int .i64) w A0 a.length a) (hc0 : a.length ≤ c0) (hr1 : Kd.C (Kd.int .i64) w A1 b.length b) (hc1 : b.length ≤ c1) (sa : a.length ≤ 1048576) (sb : b.length ≤ 1048576) :
    Calls Try.prog 39 #[.slice A0 a.length c0, .slice A1 b.length c1] w fun e w' => ∃ v, e = .returned v ∧ Kd.R (Kd.int .i64) 3 w' w.heap.size (fun _ => True) v (jointI a b) ∧ Below w.heap.size w w' := by
  have HA := JointP.S.dims_calls A0 c0 a w hr0 hc0 sa
  have HB1 := fun n => JointP.S.dims_calls A1 c1 b (w.drewN n) (Kd.C_drewN hr1 n) hc1 sb
  cases ha : dimsB a with
  | false =>
    have e : jointI a b = [] := by unfold jointI; rw [if_neg (by rw [ha]; simp)]
    rw [e]
    rw [ha] at HA
    clear hr0 hr1 e ha
    go_enter Try.func39, Try.ntmps39
    go_wp2_with fail
    refine HA.mono ?_
    rintro e w' ⟨rfl, ⟨nd, rfl⟩⟩
    go_wp2_with fail
    go_ret
    exact ⟨_, rfl, R_empty _ _ (Nat.le_refl _), below_alloc (pw_below_drewN (Below.refl _ _) nd) _⟩
  | true =>
    cases hb : dimsB b with
    | false =>
      have e : jointI a b = [] := by unfold jointI; rw [if_neg (by rw [hb]; simp)]
      rw [e]
      rw [ha] at HA
      rw [hb] at HB1
      clear hr0 hr1 e ha hb
      go_enter Try.func39, Try.ntmps39
      go_wp2_with fail
      refine HA.mono ?_
      rintro e w' ⟨rfl, ⟨nd, rfl⟩⟩
      go_wp2_with fail
      refine (HB1 nd).mono ?_
      rintro e w' ⟨rfl, ⟨nd2, rfl⟩⟩
      go_wp2_with fail
      go_ret
      exact ⟨_, rfl, R_empty _ _ (Nat.le_refl _), below_alloc (pw_below_drewN (Below.refl _ _) _) _⟩
    | true =>
      have e : jointI a b = (if Loop.allB (okJ a b) (max a.length b.length) 0 = true then (if dimsB (outJ a b (max a.length b.length)) = true then outJ a b (max a.length b.length) else []) else []) := by unfold jointI; rw [if_pos ⟨ha, hb⟩]
      rw [e]
      exact spec_yes A0 c0 a A1 c1 b w hr0 hc0 hr1 hc1 ha hb
set_option maxRecDepth 100000 in
set_option maxHeartbeats 1000000 in
theorem joint_calls (A0 : Option Addr) (c0 : Nat) (a : List Int) (A1 : Option Addr) (c1 : Nat) (b : List Int) (w : World) (hr0 : Kd.C (Kd.int .i64) w A0 a.length a) (hc0 : a.length ≤ c0) (hr1 : Kd.C (Kd.int .i64) w A1 b.length b) (hc1 : b.length ≤ c1) (sa : a.length ≤ 1048576) (sb : b.length ≤ 1048576) :
    Calls Try.prog 68 #[.slice A0 a.length c0, .slice A1 b.length c1] w fun e w' => ∃ v ys t, e = .returned (.tuple #[v, .bool t]) ∧ Kd.R (Kd.int .i64) 3 w' w.heap.size (fun _ => True) v ys ∧ JP t ys (jointI a b) ∧ Below w.heap.size w w' := by
  have HA := JointP.I.dims_calls A0 c0 a w hr0 hc0 sa
  have HB1 := fun n => JointP.I.dims_calls A1 c1 b (w.drewN n) (Kd.C_drewN hr1 n) hc1 sb
  cases ha : dimsB a with
  | false =>
    have e : jointI a b = [] := by unfold jointI; rw [if_neg (by rw [ha]; simp)]
    rw [e]
    rw [ha] at HA
    clear hr0 hr1 e ha
    go_enter Try.func68, Try.ntmps68
    go_wp2_with fail
    refine HA.mono ?_
    rintro e w' ⟨rfl, ⟨nd, rfl⟩⟩
    go_wp2_with fail
    go_ret2
    exact ⟨_, [], _, rfl, Kd.R_nil _ _ _ _ _, rfl, pw_below_drewN (Below.refl _ _) nd⟩
  | true =>
    cases hb : dimsB b with
    | false =>
      have e : jointI a b = [] := by unfold jointI; rw [if_neg (by rw [hb]; simp)]
      rw [e]
      rw [ha] at HA
      rw [hb] at HB1
      clear hr0 hr1 e ha hb
      go_enter Try.func68, Try.ntmps68
      go_wp2_with fail
      refine HA.mono ?_
      rintro e w' ⟨rfl, ⟨nd, rfl⟩⟩
      go_wp2_with fail
      refine (HB1 nd).mono ?_
      rintro e w' ⟨rfl, ⟨nd2, rfl⟩⟩
      go_wp2_with fail
      go_ret2
      exact ⟨_, [], _, rfl, Kd.R_nil _ _ _ _ _, rfl, pw_below_drewN (Below.refl _ _) _⟩
    | true => exact joint_yes A0 c0 a A1 c1 b w hr0 hc0 hr1 hc1 ha hb
set_option maxRecDepth 100000 in
set_option maxHeartbeats 1000000 in
theorem impl_calls (A0 : Option Addr) (c0 : Nat) (a : List Int) (A1 : Option Addr) (c1 : Nat) (b : List Int) (w : World) (hr0 : Kd.C (Kd.int .i64) w A0 a.length a) (hc0 : a.length ≤ c0) (hr1 : Kd.C (Kd.int .i64) w A1 b.length b) (hc1 : b.length ≤ c1) (sa : a.length ≤ 1048576) (sb : b.length ≤ 1048576) :
    Calls Try.prog 41 #[.slice A0 a.length c0, .slice A1 b.length c1] w fun e w' => ∃ v, e = .returned v ∧ Kd.R (Kd.int .i64) 3 w' w.heap.size (fun _ => True) v (jointI a b) ∧ Below w.heap.size w w' := by
  have HJ := joint_calls A0 c0 a A1 c1 b w hr0 hc0 hr1 hc1 sa sb
  clear hr0 hr1
  generalize jointI a b = res at *
  go_enter Try.func41, Try.ntmps41
  go_wp2_with fail
  refine HJ.mono ?_
  rintro e w1 ⟨v, ys, t, rfl, hR, hJ, hb⟩
  have HR := Aside0.mk hR
  have HP := Aside0.mk hJ
  have HB := Aside0.mk hb
  clear hR hJ hb HJ
  cases t with
  | true =>
    have e : ys = res := HP.out.symm
    subst e
    go_wp2_with fail
    go_ret
    exact ⟨_, rfl, HR.out, HB.out⟩
  | false =>
    have e : res = [] := HP.out
    subst e
    go_wp2_with fail
    go_ret
    exact ⟨_, rfl, Kd.R_nil _ _ _ _ _, HB.out⟩
theorem eqIntS_loop (l : List Int) (hl : l.length ≤ 1048576) : ∀ (d i k : Nat), i + d = l.length → d < k → laws_eqIntS.l0 k l l i = some true := by
  intro d
  induction d with
  | zero =>
    intro i k h hk
    obtain ⟨k, rfl⟩ : ∃ m, k = m + 1 := ⟨k - 1, by omega⟩
    simp only [laws_eqIntS.l0]
    rw [if_neg (by omega)]
  | succ d ih =>
    intro i k h hk
    obtain ⟨k, rfl⟩ : ∃ m, k = m + 1 := ⟨k - 1, by omega⟩
    simp only [laws_eqIntS.l0]
    rw [if_pos (by omega), if_pos (by omega), if_pos (by omega), if_pos trivial, Loop.wsucc i (by omega)]
    exact ih (i + 1) k (by omega) (by omega)
theorem eqIntS_ok (l : List Int) (hl : l.length ≤ 1048576) (k : Nat) (hk : l.length < k) : laws_eqIntS.f k l l = some true := by
  unfold laws_eqIntS.f
  rw [if_pos rfl]
  exact eqIntS_loop l hl l.length 0 k (by omega) hk
theorem mark_loop (n : Nat) (hn : n ≤ 1048576) : ∀ (d i k : Nat) (y : List Int), i + d = n → d < k → y.length = n → (∀ j, j < i → y.getD j 0 = 1 + (j : Int)) → ∃ z : List Int, laws_markIntS.l0 k y (1 + i) i = some (1 + (n : Int), z) ∧ z.length = n ∧ ∀ j, j < n → z.getD j 0 = 1 + (j : Int) := by
  intro d
  induction d with
  | zero =>
    intro i k y h hk hy hj
    obtain ⟨k, rfl⟩ : ∃ m, k = m + 1 := ⟨k - 1, by omega⟩
    obtain rfl : i = n := by omega
    simp only [laws_markIntS.l0]
    rw [if_neg (by omega)]
    exact ⟨y, rfl, hy, hj⟩
  | succ d ih =>
    intro i k y h hk hy hj
    obtain ⟨k, rfl⟩ : ∃ m, k = m + 1 := ⟨k - 1, by omega⟩
    simp only [laws_markIntS.l0]
    rw [if_pos (by omega), if_pos (by omega), Loop.wsucc i (by omega), Int.toNat_natCast, wid (x := 1 + (i : Int) + 1) (by omega) (by omega), show 1 + (i : Int) + 1 = 1 + ((i + 1 : Nat) : Int) by omega]
    refine ih (i + 1) k _ (by omega) (by omega) (by simpa using hy) fun j h1 => ?_
    by_cases e : j = i
    · rw [e, Loop.getD_set_eq _ _ _ _ (by omega)]
    · rw [Loop.getD_set_ne _ _ _ _ _ e]; exact hj j (by omega)
/-- The marks of a list of ints. -/
theorem mark_ok (l : List Int) (hl : l.length ≤ 1048576) : ∃ z : List Int, laws_markIntS.f (l.length + 1) l 1 = some (1 + (l.length : Int), z) ∧ z.length = l.length ∧ ∀ j, j < l.length → z.getD j 0 = 1 + (j : Int) := by
  unfold laws_markIntS.f
  exact mark_loop l.length hl l.length 0 (l.length + 1) l (by omega) (by omega) rfl (by intro j h; omega)
theorem held_loop (z : List Int) (hn : z.length ≤ 1048576) (hz : ∀ j, j < z.length → z.getD j 0 = 1 + (j : Int)) : ∀ (d i k : Nat), i + d = z.length → d < k → laws_heldIntS.l0 k z (1 + i) i = some (1 + (z.length : Int)) := by
  intro d
  induction d with
  | zero =>
    intro i k h hk
    obtain ⟨k, rfl⟩ : ∃ m, k = m + 1 := ⟨k - 1, by omega⟩
    obtain rfl : i = z.length := by omega
    simp only [laws_heldIntS.l0]
    rw [if_neg (by omega)]
  | succ d ih =>
    intro i k h hk
    obtain ⟨k, rfl⟩ : ∃ m, k = m + 1 := ⟨k - 1, by omega⟩
    simp only [laws_heldIntS.l0]
    rw [if_pos (by omega), if_pos (by omega), rd_nat, hz i (by omega), if_pos rfl, Loop.wsucc i (by omega), wid (x := 1 + (i : Int) + 1) (by omega) (by omega), show 1 + (i : Int) + 1 = 1 + ((i + 1 : Nat) : Int) by omega]
    exact ih (i + 1) k (by omega) (by omega)
theorem held_ok (z : List Int) (hn : z.length ≤ 1048576) (hz : ∀ j, j < z.length → z.getD j 0 = 1 + (j : Int)) : laws_heldIntS.f (z.length + 1) z 1 = some (1 + (z.length : Int)) := by
  unfold laws_heldIntS.f
  exact held_loop z hn hz z.length 0 (z.length + 1) (by omega) (by omega)
theorem mark_any_loop (n : Nat) (hn : n ≤ 1048576) (a : Int) (a0 : 0 ≤ a) (a1 : a ≤ 4503599627370496) : ∀ (d i k : Nat) (y : List Int), i + d = n → d < k → y.length = n → ∃ z : List Int, laws_markIntS.l0 k y (a + i) i = some (a + (n : Int), z) ∧ z.length = n := by
  intro d
  induction d with
  | zero =>
    intro i k y h hk hy
    obtain ⟨k, rfl⟩ : ∃ m, k = m + 1 := ⟨k - 1, by omega⟩
    obtain rfl : i = n := by omega
    simp only [laws_markIntS.l0]
    rw [if_neg (by omega)]
    exact ⟨y, rfl, hy⟩
  | succ d ih =>
    intro i k y h hk hy
    obtain ⟨k, rfl⟩ : ∃ m, k = m + 1 := ⟨k - 1, by omega⟩
    simp only [laws_markIntS.l0]
    rw [if_pos (by omega), if_pos (by omega), Loop.wsucc i (by omega), Int.toNat_natCast, wid (x := a + (i : Int) + 1) (by omega) (by omega), show a + (i : Int) + 1 = a + ((i + 1 : Nat) : Int) by omega]
    exact ih (i + 1) k _ (by omega) (by omega) (by simpa using hy)
/-- The marks of a list of ints, from whatever number on. -/
theorem mark_any (l : List Int) (hl : l.length ≤ 1048576) (a : Int) (a0 : 0 ≤ a) (a1 : a ≤ 4503599627370496) : ∃ z : List Int, laws_markIntS.f 1048577 l a = some (a + (l.length : Int), z) ∧ z.length = l.length := by
  unfold laws_markIntS.f
  have := mark_any_loop l.length hl a a0 a1 l.length 0 1048577 l (by omega) (by omega) rfl
  rw [Int.natCast_zero, Int.add_zero] at this
  exact this
namespace T
open Go.Proofs.Ytkbbgjoohffooaa.PFnExactCacheOk
theorem toIntS_loop (l : List Int) (hl : l.length ≤ 1048576) : ∀ (d i k : Nat) (y : List Int), i + d = l.length → d < k → y.length = l.length → (∀ j, j < i → y.getD j 0 = l.getD j 0) → laws_toIntS.l0 k l y i = some l := by
  intro d
  induction d with
  | zero =>
    intro i k y h hk hy hj
    obtain ⟨k, rfl⟩ : ∃ m, k = m + 1 := ⟨k - 1, by omega⟩
    simp only [laws_toIntS.l0]
    rw [if_neg (by omega)]
    congr 1
    refine List.ext_getElem hy fun j h1 h2 => ?_
    have := hj j (by omega)
    rwa [Loop.getD_lt _ _ _ h1, Loop.getD_lt _ _ _ h2] at this
  | succ d ih =>
    intro i k y h hk hy hj
    obtain ⟨k, rfl⟩ : ∃ m, k = m + 1 := ⟨k - 1, by omega⟩
    simp only [laws_toIntS.l0]
    rw [if_pos (by omega), if_pos (by omega), if_pos (by omega), Loop.wsucc i (by omega), Int.toNat_natCast, rd_nat]
    refine ih (i + 1) k _ (by omega) (by omega) (by simpa using hy) fun j h1 => ?_
    by_cases e : j = i
    · rw [e, Loop.getD_set_eq _ _ _ _ (by omega)]
    · rw [Loop.getD_set_ne _ _ _ _ _ e]; exact hj j (by omega)
theorem toIntS_ok (l : List Int) (hl : l.length ≤ 1048576) (k : Nat) (hk : l.length < k) : laws_toIntS.f k l = some l := by
  unfold laws_toIntS.f
  rw [if_pos (by omega), Int.toNat_natCast, if_pos (by omega)]
  exact toIntS_loop l hl l.length 0 k _ (by omega) hk (by simp) (by intro j h; omega)
end T
theorem toI_calls (A0 : Option Addr) (c0 : Nat) (l : List Int) (w : World) (hr0 : Kd.C (Kd.int .i64) w A0 l.length l) (hc0 : l.length ≤ c0) (hl : l.length ≤ 1048576) :
    Calls Try.prog 40 #[.slice A0 l.length c0] w fun e w' => ∃ v, e = .returned v ∧ Kd.R (Kd.int .i64) 3 w' w.heap.size (fun _ => True) v l ∧ Below w.heap.size w w' :=
  PFnExactCacheOk.laws_toIntS.calls 1048577 A0 c0 l l w hr0 hc0 (T.toIntS_ok l hl 1048577 (by omega))
set_option maxRecDepth 100000 in
set_option maxHeartbeats 1000000 in
theorem law_walk (A0 : Option Addr) (c0 : Nat) (a : List Int) (A1 : Option Addr) (c1 : Nat) (b : List Int) (w : World) (hr0 : Kd.C (Kd.int .i64) w A0 a.length a) (hc0 : a.length ≤ c0) (hr1 : Kd.C (Kd.int .i64) w A1 b.length b) (hc1 : b.length ≤ c1) :
    Calls Try.prog 9 #[.slice A0 a.length c0, .slice A1 b.length c1] w fun e w' => e = .returned (.bool true) ∧ Below w.heap.size w w' := by
  by_cases sa : 1048576 < (a.length : Int)
  · have d1 : decide (1048576 < (a.length : Int)) = true := decide_eq_true sa
    have d1' : decide (1048576 < a.length) = true := decide_eq_true (by omega)
    clear hr0 hr1 sa
    go_enter Try.func9, Try.ntmps9
    go_wp2_with fail
    go_ret
    exact ⟨rfl, Below.refl _ _⟩
  · have d1 : decide (1048576 < (a.length : Int)) = false := decide_eq_false sa
    have d1' : decide (1048576 < a.length) = false := decide_eq_false (by omega)
    by_cases sb : 1048576 < (b.length : Int)
    · have d2 : decide (1048576 < (b.length : Int)) = true := decide_eq_true sb
      have d2' : decide (1048576 < b.length) = true := decide_eq_true (by omega)
      clear hr0 hr1 sa sb
      go_enter Try.func9, Try.ntmps9
      go_wp2_with fail
      go_ret
      exact ⟨rfl, Below.refl _ _⟩
    · have d2 : decide (1048576 < (b.length : Int)) = false := decide_eq_false sb
      have d2' : decide (1048576 < b.length) = false := decide_eq_false (by omega)
      have sa' : a.length ≤ 1048576 := by omega
      have sb' : b.length ≤ 1048576 := by omega
      clear sa sb
      have HTA := fun W (h : Below w.heap.size w W) => toI_calls A0 c0 a W (Kd.C_below hr0 h) hc0 sa'
      have HTB := fun W (h : Below w.heap.size w W) => toI_calls A1 c1 b W (Kd.C_below hr1 h) hc1 sb'
      have HSP := fun P p Q q W h1 h2 h3 h4 => spec_calls P p a Q q b W h1 h2 h3 h4 sa' sb'
      have HIM := fun P p Q q W h1 h2 h3 h4 => impl_calls P p a Q q b W h1 h2 h3 h4 sa' sb'
      have HEA := Aside0.mk (eqIntS_ok a (by omega) 1048577 (by omega))
      have HEB := Aside0.mk (eqIntS_ok b (by omega) 1048577 (by omega))
      obtain ⟨za, ma1, ma2⟩ := mark_any a sa' 1 (by decide) (by decide)
      obtain ⟨zb, mb1, mb2⟩ := mark_any b sb' (1 + (a.length : Int)) (by omega) (by omega)
      have HMA := Aside0.mk ma1
      have HMB := Aside0.mk mb1
      have hl := jointI_len a b
      clear hr0 hr1 ma1 ma2 mb1 mb2
      generalize jointI a b = r at *
      have HE := Aside0.mk (eqIntS_ok r (by omega) (r.length + 1) (by omega))
      obtain ⟨z, z1, z2, z3⟩ := mark_ok r (by omega)
      have HM := Aside0.mk z1
      have HZ := Aside0.mk (held_ok z (by omega) (by rw [z2]; exact z3))
      have HL := Aside0.mk z2
      clear z1 z2 z3
      go_enter Try.func9, Try.ntmps9
      go_wp2_with fail
      refine (HTA w (Below.refl _ _)).mono ?_
      rintro e w1 ⟨va, rfl, hRa, hb⟩
      obtain ⟨P1, p1, rfl⟩ := Kd.R_slice hRa
      have HR1 := Aside0.mk (Kd.R_reads' hRa)
      have HB := Aside0.mk hb
      clear hRa hb
      go_wp2_with fail
      refine (HTB w1 HB.out).mono ?_
      rintro e w2 ⟨vb, rfl, hRb, hb⟩
      obtain ⟨P2, p2, rfl⟩ := Kd.R_slice hRb
      have HR2 := Aside0.mk (Kd.R_reads' hRb)
      have HR1 := Aside0.mk (And.intro (Kd.C_below HR1.out.2.2 hb) HR1.out.2.1)
      have HB := Aside0.mk (below_step HB.out hb)
      clear hRb hb
      go_wp2_with fail
      refine (HSP _ _ _ _ w2 HR1.out.1 HR1.out.2 HR2.out.2.2 HR2.out.2.1).mono ?_
      rintro e w3 ⟨v0, rfl, ho0, hb⟩
      obtain ⟨Aw, cw, rfl⟩ := Kd.R_slice ho0
      have HW0 := Aside0.mk (Kd.R_reads' ho0)
      have HBW := Aside0.mk (below_step HB.out hb)
      clear ho0 hb HR1 HR2 HB HSP
      go_wp2_with fail
      refine (HTA w3 HBW.out).mono ?_
      rintro e w4 ⟨vx, rfl, hRx, hb⟩
      have HXL := Aside0.mk (Kd.R_lt hRx)
      have HX0 := Aside0.mk (Kd.R_tight rfl hRx)
      have HS4 := Aside0.mk hb.size
      obtain ⟨Ax, cx, rfl⟩ := Kd.R_slice hRx
      have HX := Aside0.mk hb
      clear hRx hb
      go_wp2_with fail
      refine (HTB w4 (below_step HBW.out HX.out)).mono ?_
      rintro e w5 ⟨vy, rfl, hRy, hb⟩
      have HYB := Aside0.mk (Kd.R_base hRy)
      have HYL := Aside0.mk (Kd.R_lt hRy)
      have HY0 := Aside0.mk (Kd.R_tight rfl (Kd.R_lower hRy HS4.out))
      have HS5 := Aside0.mk (Nat.le_trans HS4.out hb.size)
      have HS45 := Aside0.mk hb.size
      obtain ⟨Ay, cy, rfl⟩ := Kd.R_slice hRy
      have HX0 := Aside0.mk (Kd.R_below HX0.out hb)
      have HX := Aside0.mk (below_step HX.out hb)
      clear hRy hb
      go_wp2_with fail
      refine (HIM _ _ _ _ w5 (Kd.R_reads' HX0.out).2.2 (Kd.R_reads' HX0.out).2.1 (Kd.R_reads' HY0.out).2.2 (Kd.R_reads' HY0.out).2.1).mono ?_
      rintro e w6 ⟨v1, rfl, ho1, hb⟩
      have HGB := Aside0.mk (Kd.R_base ho1)
      have HG0 := Aside0.mk (Kd.R_tight rfl (Kd.R_lower ho1 HS5.out))
      obtain ⟨A1', c1', rfl⟩ := Kd.R_slice ho1
      have HX0 := Aside0.mk (Kd.R_below HX0.out hb)
      have HY0 := Aside0.mk (Kd.R_below HY0.out hb)
      have HX := Aside0.mk (below_step HX.out hb)
      clear ho1 hb
      go_wp2_with fail
      refine (laws_eqIntS.calls (r.length + 1) A1' c1' r Aw cw r true _ (Kd.R_reads' HG0.out).2.2 (Kd.R_reads' HG0.out).2.1 (Kd.C_below HW0.out.2.2 HX.out) HW0.out.2.1 HE.out).mono ?_
      rintro e w' ⟨rfl, ⟨n1, rfl⟩⟩
      have HX := Aside0.mk (pw_below_drewN HX.out n1)
      have HX0 := Aside0.mk (Kd.R_drewN HX0.out n1)
      have HY0 := Aside0.mk (Kd.R_drewN HY0.out n1)
      have HG0 := Aside0.mk (Kd.R_drewN HG0.out n1)
      go_wp2_with fail
      refine (HTA _ (below_step HBW.out HX.out)).mono ?_
      rintro e w7 ⟨v7, rfl, hR7, hb⟩
      obtain ⟨P7, p7, rfl⟩ := Kd.R_slice hR7
      have hr7 := Kd.R_reads' hR7
      have HX := Aside0.mk (below_step HX.out hb)
      have HX0 := Aside0.mk (Kd.R_below HX0.out hb)
      have HY0 := Aside0.mk (Kd.R_below HY0.out hb)
      have HG0 := Aside0.mk (Kd.R_below HG0.out hb)
      clear hR7 hb
      go_wp2_with fail
      refine (laws_eqIntS.calls 1048577 _ _ a _ _ a true _ (Kd.R_reads' HX0.out).2.2 (Kd.R_reads' HX0.out).2.1 hr7.2.2 hr7.2.1 HEA.out).mono ?_
      rintro e w' ⟨rfl, ⟨n2, rfl⟩⟩
      clear hr7
      have HX := Aside0.mk (pw_below_drewN HX.out n2)
      have HX0 := Aside0.mk (Kd.R_drewN HX0.out n2)
      have HY0 := Aside0.mk (Kd.R_drewN HY0.out n2)
      have HG0 := Aside0.mk (Kd.R_drewN HG0.out n2)
      go_wp2_with fail
      refine (HTB _ (below_step HBW.out HX.out)).mono ?_
      rintro e w8 ⟨v8, rfl, hR8, hb⟩
      obtain ⟨P8, p8, rfl⟩ := Kd.R_slice hR8
      have hr8 := Kd.R_reads' hR8
      have HX := Aside0.mk (below_step HX.out hb)
      have HX0 := Aside0.mk (Kd.R_below HX0.out hb)
      have HY0 := Aside0.mk (Kd.R_below HY0.out hb)
      have HG0 := Aside0.mk (Kd.R_below HG0.out hb)
      clear hR8 hb
      go_wp2_with fail
      refine (laws_eqIntS.calls 1048577 _ _ b _ _ b true _ (Kd.R_reads' HY0.out).2.2 (Kd.R_reads' HY0.out).2.1 hr8.2.2 hr8.2.1 HEB.out).mono ?_
      rintro e w' ⟨rfl, ⟨n3, rfl⟩⟩
      clear hr8
      have HX := Aside0.mk (pw_below_drewN HX.out n3)
      have HX0 := Aside0.mk (Kd.R_drewN HX0.out n3)
      have HY0 := Aside0.mk (Kd.R_drewN HY0.out n3)
      have HG0 := Aside0.mk (Kd.R_drewN HG0.out n3)
      go_wp2_with fail
      refine (laws_markIntS.calls 1048577 _ _ a 1 (1 + (a.length : Int)) za w3 _ HX.out HX0.out HMA.out).mono ?_
      rintro e w9 ⟨rfl, _, hB9, hK9⟩
      have HX := Aside0.mk hB9
      have HY0 := Aside0.mk (Kd.R_step HY0.out (fun k hk hlt => hK9.2 k hlt (fun e_ => by
        have h1 := HXL.out k e_.symm
        have h2 := HYB.out k hk.symm
        omega)))
      have HG0 := Aside0.mk (Kd.R_step HG0.out (fun k hk hlt => hK9.2 k hlt (fun e_ => by
        have h1 := HXL.out k e_.symm
        have h2 := HGB.out k hk.symm
        have h3 := HS45.out
        omega)))
      clear hB9 hK9 HX0
      go_wp2_with fail
      refine (laws_markIntS.calls 1048577 _ _ b (1 + (a.length : Int)) (1 + (a.length : Int) + (b.length : Int)) zb w3 _ HX.out HY0.out HMB.out).mono ?_
      rintro e w10 ⟨rfl, _, hB9, hK9⟩
      have HX := Aside0.mk hB9
      have HG0 := Aside0.mk (Kd.R_step HG0.out (fun k hk hlt => hK9.2 k hlt (fun e_ => by
        have h1 := HYL.out k e_.symm
        have h2 := HGB.out k hk.symm
        omega)))
      clear hB9 hK9 HY0
      have d3 : decide ((1 + (a.length : Int) + (b.length : Int)) < 0) = false := decide_eq_false (by omega)
      go_wp2_with fail
      refine (laws_eqIntS.calls (r.length + 1) A1' c1' r Aw cw r true _ (Kd.R_reads' HG0.out).2.2 (Kd.R_reads' HG0.out).2.1 (Kd.C_below HW0.out.2.2 HX.out) HW0.out.2.1 HE.out).mono ?_
      rintro e w' ⟨rfl, ⟨n4, rfl⟩⟩
      have HX := Aside0.mk (pw_below_drewN HX.out n4)
      have HG0 := Aside0.mk (Kd.R_drewN HG0.out n4)
      go_wp2_with fail
      refine (laws_markIntS.calls (r.length + 1) _ _ r 1 (1 + (r.length : Int)) z w3 _ HX.out HG0.out HM.out).mono ?_
      rintro e w11 ⟨rfl, ho7, hB7, _⟩
      have HX := Aside0.mk hB7
      have HC7 := Aside0.mk (Kd.R_reads' ho7)
      clear ho7 hB7 HG0
      have HH : ∀ W, Kd.C (Kd.int .i64) W A1' z.length z → z.length ≤ c1' → Calls Try.prog 24 #[.slice A1' r.length c1', .int .i64 1] W fun e w' => e = .returned (.int .i64 (1 + (r.length : Int))) ∧ Drawn0 W w' := by
        intro W h1 h2
        have := laws_heldIntS.calls (z.length + 1) A1' c1' z 1 (1 + (z.length : Int)) W h1 h2 HZ.out
        rwa [HL.out] at this
      have hz1 : z.length ≤ c1' := by have := HC7.out.2.1; have := HL.out; omega
      have d4 : decide ((1 + (r.length : Int)) < 0) = false := decide_eq_false (by omega)
      go_wp2_with fail
      refine (HH _ HC7.out.2.2 hz1).mono ?_
      rintro e w' ⟨rfl, ⟨n5, rfl⟩⟩
      have HX := Aside0.mk (pw_below_drewN HX.out n5)
      have HC7 := Aside0.mk (Kd.C_drewN HC7.out.2.2 n5)
      have d5 : ((1 + (r.length : Int)) != 1 + (r.length : Int)) = false := bne_eq_false_iff_eq.mpr rfl
      go_wp2_with fail
      refine (HTA _ (below_step HBW.out HX.out)).mono ?_
      rintro e w12 ⟨v12, rfl, hR12, hb⟩
      obtain ⟨P12, p12, rfl⟩ := Kd.R_slice hR12
      have HQ1 := Aside0.mk (Kd.R_reads' hR12)
      have HX := Aside0.mk (below_step HX.out hb)
      have HC7 := Aside0.mk (Kd.C_below HC7.out hb)
      clear hR12 hb
      go_wp2_with fail
      refine (HTB _ (below_step HBW.out HX.out)).mono ?_
      rintro e w13 ⟨v13, rfl, hR13, hb⟩
      obtain ⟨P13, p13, rfl⟩ := Kd.R_slice hR13
      have HQ2 := Aside0.mk (Kd.R_reads' hR13)
      have HQ1 := Aside0.mk (And.intro (Kd.C_below HQ1.out.2.2 hb) HQ1.out.2.1)
      have HX := Aside0.mk (below_step HX.out hb)
      have HC7 := Aside0.mk (Kd.C_below HC7.out hb)
      clear hR13 hb
      go_wp2_with fail
      refine (HIM _ _ _ _ _ HQ1.out.1 HQ1.out.2 HQ2.out.2.2 HQ2.out.2.1).mono ?_
      rintro e w14 ⟨v14, rfl, hR14, hb⟩
      obtain ⟨P14, p14, rfl⟩ := Kd.R_slice hR14
      have HQ3 := Aside0.mk (Kd.R_reads' hR14)
      have HX := Aside0.mk (below_step HX.out hb)
      have HC7 := Aside0.mk (Kd.C_below HC7.out hb)
      clear hR14 hb
      go_wp2_with fail
      refine (laws_eqIntS.calls (r.length + 1) P14 p14 r Aw cw r true _ HQ3.out.2.2 HQ3.out.2.1 (Kd.C_below HW0.out.2.2 HX.out) HW0.out.2.1 HE.out).mono ?_
      rintro e w' ⟨rfl, ⟨n6, rfl⟩⟩
      go_wp2_with fail
      refine (HH _ (Kd.C_drewN HC7.out n6) hz1).mono ?_
      rintro e w' ⟨rfl, ⟨n7, rfl⟩⟩
      go_wp2_with fail
      go_ret
      exact ⟨rfl, by repeat (first | exact below_step HBW.out HX.out | apply pw_below_drewN)⟩
theorem laws_FnExactJoint.calls (A0 : Option Addr) (c0 : Nat) (l0 : List Int) (A1 : Option Addr) (c1 : Nat) (l1 : List Int) (r : Bool) (w : World) (hr0 : Kd.C (Kd.int .i64) w A0 l0.length l0) (hc0 : l0.length ≤ c0) (hr1 : Kd.C (Kd.int .i64) w A1 l1.length l1) (hc1 : l1.length ≤ c1) (h : true = r) :
    Calls Try.prog 9 #[.slice A0 l0.length c0, .slice A1 l1.length c1] w fun e w' => e = .returned (.bool r) ∧ Below w.heap.size w w' := by
  subst h
  exact law_walk A0 c0 l0 A1 c1 l1 w hr0 hc0 hr1 hc1
end Go.Proofs.Ytkbbgjoohffooaa.PFnExactJoint
namespace Go.Proofs.Ytkbbgjoohffooaa.Pure
theorem FnExactJoint (l0 l1 : List Int) (_ : l0.length ≤ maxLen) (_ : ∀ x ∈ l0, (Lit.int .i64 x).wf = true) (_ : l1.length ≤ maxLen) (_ : ∀ x ∈ l1, (Lit.int .i64 x).wf = true) : true = true := rfl
end Go.Proofs.Ytkbbgjoohffooaa.Pure
