/- laws.FnExactShuffle, walked: the program's Shuffle returns what the reference's returns, for every two ints. No condition. -/
import Derived.Test.YtjgokmnhhcpkcaaShuf
import Derived.Test.YtjgokmnhhcpkcaaLoop
namespace Go.Proofs.Ytjgokmnhhcpkcaa.PFnExactShuffle
open Go.RowKit Go.Proofs.Ytjgokmnhhcpkcaa.Aid Go.Proofs.Ytjgokmnhhcpkcaa.Shuf Go.Proofs.YtjgokmnhhcpkcaaW.PrintWords Go.Proofs.YtjgokmnhhcpkcaaW.PrintLast Go.Proofs.YtjgokmnhhcpkcaaW.PrintMore
set_option linter.unusedVariables false
set_option linter.unusedSimpArgs false
theorem rd_nat (l : List Int) (i : Nat) : rd l (i : Int) = l.getD i 0 := by unfold rd; rw [Int.toNat_natCast]
theorem eqIntS_loop (l : List Int) (hl : l.length ≤ 1048576) : ∀ (d i k : Nat), i + d = l.length → d < k → laws_eqIntS.l0 k l l i = some true := by
  intro d
  induction d with
  | zero =>
    intro i k h hk
    obtain ⟨k, rfl⟩ : ∃ m, k = m + 1 := ⟨k - 1, by omega⟩
    simp only [laws_eqIntS.l0]
    rw [if_neg (by omega)]
  | succ d ih =>
    intro i k h hk
    obtain ⟨k, rfl⟩ : ∃ m, k = m + 1 := ⟨k - 1, by omega⟩
    simp only [laws_eqIntS.l0]
    rw [if_pos (by omega), if_pos (by omega), if_pos (by omega), if_pos trivial, Loop.wsucc i (by omega)]
    exact ih (i + 1) k (by omega) (by omega)
theorem eqIntS_ok (l : List Int) (hl : l.length ≤ 1048576) (k : Nat) (hk : l.length < k) : laws_eqIntS.f k l l = some true := by
  unfold laws_eqIntS.f
  rw [if_pos rfl]
  exact eqIntS_loop l hl l.length 0 k (by omega) hk
theorem mark_loop (n : Nat) (hn : n ≤ 1048576) : ∀ (d i k : Nat) (y : List Int), i + d = n → d < k → y.length = n → (∀ j, j < i → y.getD j 0 = 1 + (j : Int)) → ∃ z : List Int, laws_markIntS.l0 k y (1 + i) i = some (1 + (n : Int), z) ∧ z.length = n ∧ ∀ j, j < n → z.getD j 0 = 1 + (j : Int) := by
  intro d
  induction d with
  | zero =>
    intro i k y h hk hy hj
    obtain ⟨k, rfl⟩ : ∃ m, k = m + 1 := ⟨k - 1, by omega⟩
    obtain rfl : i = n := by omega
    simp only [laws_markIntS.l0]
    rw [if_neg (by omega)]
    exact ⟨y, rfl, hy, hj⟩
  | succ d ih =>
    intro i k y h hk hy hj
    obtain ⟨k, rfl⟩ : ∃ m, k = m + 1 := ⟨k - 1, by omega⟩
    simp only [laws_markIntS.l0]
    rw [if_pos (by omega), if_pos (by omega), Loop.wsucc i (by omega), Int.toNat_natCast, wid (x := 1 + (i : Int) + 1) (by omega) (by omega), show 1 + (i : Int) + 1 = 1 + ((i + 1 : Nat) : Int) by omega]
    refine ih (i + 1) k _ (by omega) (by omega) (by simpa using hy) fun j h1 => ?_
    by_cases e : j = i
    · rw [e, Loop.getD_set_eq _ _ _ _ (by omega)]
    · rw [Loop.getD_set_ne _ _ _ _ _ e]; exact hj j (by omega)
/-- The marks of a list of ints. -/
theorem mark_ok (l : List Int) (hl : l.length ≤ 1048576) : ∃ z : List Int, laws_markIntS.f (l.length + 1) l 1 = some (1 + (l.length : Int), z) ∧ z.length = l.length ∧ ∀ j, j < l.length → z.getD j 0 = 1 + (j : Int) := by
  unfold laws_markIntS.f
  exact mark_loop l.length hl l.length 0 (l.length + 1) l (by omega) (by omega) rfl (by intro j h; omega)
theorem held_loop (z : List Int) (hn : z.length ≤ 1048576) (hz : ∀ j, j < z.length → z.getD j 0 = 1 + (j : Int)) : ∀ (d i k : Nat), i + d = z.length → d < k → laws_heldIntS.l0 k z (1 + i) i = some (1 + (z.length : Int)) := by
  intro d
  induction d with
  | zero =>
    intro i k h hk
    obtain ⟨k, rfl⟩ : ∃ m, k = m + 1 := ⟨k - 1, by omega⟩
    obtain rfl : i = z.length := by omega
    simp only [laws_heldIntS.l0]
    rw [if_neg (by omega)]
  | succ d ih =>
    intro i k h hk
    obtain ⟨k, rfl⟩ : ∃ m, k = m + 1 := ⟨k - 1, by omega⟩
    simp only [laws_heldIntS.l0]
    rw [if_pos (by omega), if_pos (by omega), rd_nat, hz i (by omega), if_pos rfl, Loop.wsucc i (by omega), wid (x := 1 + (i : Int) + 1) (by omega) (by omega), show 1 + (i : Int) + 1 = 1 + ((i + 1 : Nat) : Int) by omega]
    exact ih (i + 1) k (by omega) (by omega)
theorem held_ok (z : List Int) (hn : z.length ≤ 1048576) (hz : ∀ j, j < z.length → z.getD j 0 = 1 + (j : Int)) : laws_heldIntS.f (z.length + 1) z 1 = some (1 + (z.length : Int)) := by
  unfold laws_heldIntS.f
  exact held_loop z hn hz z.length 0 (z.length + 1) (by omega) (by omega)
theorem shufR_len (s n : Int) : (shufR s n).length ≤ 4096 := by
  unfold shufR
  split
  · rw [shufL_len, rng_len]; omega
  · simp
set_option maxRecDepth 100000 in
set_option maxHeartbeats 1000000 in
theorem law_walk (s n : Int) (w : World) : Calls Try.prog 14 #[.int .i64 s, .int .i64 n] w fun e w' => e = .returned (.bool true) ∧ Below w.heap.size w w' := by
  have HI := fun w => shuffle_calls s n w
  have HSp := spec_Shuffle.calls 10000 s n _ w (sShuffle s n)
  have hl := shufR_len s n
  generalize shufR s n = r at *
  have HE := Aside0.mk (eqIntS_ok r (by omega) (r.length + 1) (by omega))
  obtain ⟨z, z1, z2, z3⟩ := mark_ok r (by omega)
  have HM := Aside0.mk z1
  have HZ := Aside0.mk (held_ok z (by omega) (by rw [z2]; exact z3))
  have HL := Aside0.mk z2
  clear z1 z2 z3
  go_enter Try.func14, Try.ntmps14
  go_wp2_with fail
  refine HSp.mono ?_
  rintro e w1 ⟨v0, rfl, ho0, hB⟩
  have HB := Aside0.mk hB
  obtain ⟨A0, c0, rfl⟩ := Kd.R_slice ho0
  have HR0 := Aside0.mk (Kd.R_reads' ho0)
  clear ho0 hB HSp
  go_wp2_with fail
  refine (HI _).mono ?_
  rintro e w2 ⟨v1, rfl, ho1, hB⟩
  obtain ⟨A1, c1, rfl⟩ := Kd.R_slice ho1
  have HO1 := Aside0.mk ho1
  have HB1 := Aside0.mk hB
  clear ho1 hB
  go_wp2_with fail
  refine (laws_eqIntS.calls (r.length + 1) A1 c1 r A0 c0 r true _ (Kd.R_reads' HO1.out).2.2 (Kd.R_reads' HO1.out).2.1 (Kd.C_below HR0.out.2.2 HB1.out) HR0.out.2.1 HE.out).mono ?_
  rintro e w' ⟨rfl, ⟨nd, rfl⟩⟩
  go_wp2_with fail
  refine (laws_markIntS.calls (r.length + 1) (fun _ => True) _ r 1 (1 + (r.length : Int)) z w1 _ (pw_below_drewN HB1.out nd) (Kd.R_drewN HO1.out nd) HM.out).mono ?_
  rintro e w4 ⟨rfl, ho4, hB4, _⟩
  have HO4 := Aside0.mk ho4
  have HB4 := Aside0.mk hB4
  clear ho4 hB4 HO1 HB1
  have d1 : decide ((1 + (r.length : Int)) < 0) = false := decide_eq_false (by omega)
  have HH : ∀ W, Kd.C (Kd.int .i64) W A1 z.length z → z.length ≤ c1 → Calls Try.prog 46 #[.slice A1 r.length c1, .int .i64 1] W fun e w' => e = .returned (.int .i64 (1 + (r.length : Int))) ∧ Drawn0 W w' := by
    intro W h1 h2
    have := laws_heldIntS.calls (z.length + 1) A1 c1 z 1 (1 + (z.length : Int)) W h1 h2 HZ.out
    rwa [HL.out] at this
  have HC4 := Aside0.mk (Kd.R_reads' HO4.out)
  clear HO4
  go_wp2_with fail
  refine (HH _ HC4.out.2.2 (by have := HC4.out.2.1; have := HL.out; omega)).mono ?_
  rintro e w' ⟨rfl, ⟨nd, rfl⟩⟩
  have d2 : ((1 + (r.length : Int)) != 1 + (r.length : Int)) = false := bne_eq_false_iff_eq.mpr rfl
  go_wp2_with fail
  refine (HI _).mono ?_
  rintro e w6 ⟨v2, rfl, ho2, hB⟩
  obtain ⟨A2, c2, rfl⟩ := Kd.R_slice ho2
  have HR2 := Aside0.mk (Kd.R_reads' ho2)
  have HC6 := Aside0.mk (Kd.C_below (Kd.C_drewN HC4.out.2.2 nd) hB)
  have HB6 := Aside0.mk (below_step (pw_below_drewN HB4.out nd) hB)
  clear ho2 hB HB4
  go_wp2_with fail
  refine (laws_eqIntS.calls (r.length + 1) A2 c2 r A0 c0 r true _ HR2.out.2.2 HR2.out.2.1 (Kd.C_below HR0.out.2.2 HB6.out) HR0.out.2.1 HE.out).mono ?_
  rintro e w' ⟨rfl, ⟨nd2, rfl⟩⟩
  go_wp2_with fail
  refine (HH _ (Kd.C_drewN HC6.out nd2) (by have := HC4.out.2.1; have := HL.out; omega)).mono ?_
  rintro e w' ⟨rfl, ⟨nd3, rfl⟩⟩
  go_wp2_with fail
  go_ret
  exact ⟨rfl, by repeat (first | exact below_step HB.out HB6.out | apply pw_below_drewN)⟩
theorem laws_FnExactShuffle.calls (a0 a1 : Int) (r : Bool) (w : World) (h : true = r) :
    Calls Try.prog 14 #[.int .i64 a0, .int .i64 a1] w fun e w' => e = .returned (.bool r) ∧ Below w.heap.size w w' := by
  subst h
  exact law_walk a0 a1 w
end Go.Proofs.Ytjgokmnhhcpkcaa.PFnExactShuffle
namespace Go.Proofs.Ytjgokmnhhcpkcaa.Pure
set_option linter.unusedVariables false in
theorem FnExactShuffle (a0 a1 : Int) (w0 : (Lit.int .i64 a0).wf = true) (w1 : (Lit.int .i64 a1).wf = true) : true = true := rfl
end Go.Proofs.Ytjgokmnhhcpkcaa.Pure
