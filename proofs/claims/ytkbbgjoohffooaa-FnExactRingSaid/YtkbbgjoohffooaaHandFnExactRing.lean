/- laws.FnExactRing, walked: the program's Ring returns what the reference's returns, for every int. No condition. -/
import Derived.Test.YtkbbgjoohffooaaMarkMoveSS
namespace Go.Proofs.Ytkbbgjoohffooaa.PFnExactRing
open Go.RowKit Go.Proofs.Ytkbbgjoohffooaa.Aid Go.Proofs.Ytkbbgjoohffooaa.RingP Go.Proofs.YtkbbgjoohffooaaW.PrintWords Go.Proofs.YtkbbgjoohffooaaW.PrintLast Go.Proofs.YtkbbgjoohffooaaW.PrintMore
set_option linter.unusedVariables false
set_option linter.unusedSimpArgs false
set_option maxRecDepth 100000 in
set_option maxHeartbeats 1000000 in
theorem law_walk (n : Int) (w : World) : Calls Try.prog 3 #[.int .i64 n] w fun e w' => e = .returned (.bool true) ∧ Below w.heap.size w w' := by
  have HSp := spec_Ring.calls 20000 n _ w (sRing n)
  have HI := fun w => impl_Ring.calls 20000 n _ w (iRing n)
  have hl := ringI_len n
  have hr := ringI_row n
  generalize ringI n = r at *
  have hj : ∀ j, j < r.length → (r.getD j []).length ≤ 4096 := fun j hj => by
    rw [Loop.getD_lt _ _ _ hj]; have := hr _ (List.getElem_mem hj); omega
  have HEQ := Aside0.mk (eqMM r (by omega) hj)
  have HHE := Aside0.mk (heldMM r (by omega) hj)
  have HMK := fun A c w0 w hS hB => markMoveSS_calls A c r w0 w (by omega) hj hS hB
  have hm0 : 0 ≤ (pre r r.length : Int) := by omega
  generalize (pre r r.length : Int) = T at *
  have HL := Aside0.mk (mkLL_len r)
  clear hr hj
  go_enter Try.func3, Try.ntmps3
  go_wp2_with fail
  refine HSp.mono ?_
  rintro e w1 ⟨v0, rfl, ho0, hB⟩
  have HB := Aside0.mk hB
  obtain ⟨A0, c0, rfl⟩ := Kd.S_slice ho0
  have HR0 := Aside0.mk (Kd.S_reads' ho0)
  clear ho0 hB HSp
  go_wp2_with fail
  refine (HI _).mono ?_
  rintro e w2 ⟨v1, rfl, ho1, hB⟩
  obtain ⟨A1, c1, rfl⟩ := Kd.S_slice ho1
  have HO1 := Aside0.mk ho1
  have HX := Aside0.mk hB
  clear ho1 hB
  go_wp2_with fail
  refine (laws_eqMoveSS.calls 20000 A1 c1 r A0 c0 r true _ (Kd.S_reads' HO1.out).2.2 (Kd.S_reads' HO1.out).2.1 (Kd.C_below HR0.out.2.2 HX.out) HR0.out.2.1 HEQ.out).mono ?_
  rintro e w3 ⟨rfl, hb⟩
  have HX := Aside0.mk (below_step HX.out hb)
  have HO1 := Aside0.mk (Kd.S_below HO1.out hb)
  clear hb
  go_wp2_with fail
  refine (HMK A1 c1 w1 _ HO1.out HX.out).mono ?_
  rintro e w4 ⟨rfl, ho4, hB4⟩
  have HX := Aside0.mk hB4
  have HC4 := Aside0.mk (Kd.S_reads' ho4)
  clear ho4 hB4 HO1 HMK
  have d1 : decide ((1 + 4 * T) < 0) = false := decide_eq_false (by omega)
  have HH : ∀ W, Kd.C (Kd.slice 69 k69) W A1 (mkLL r).length (mkLL r) → (mkLL r).length ≤ c1 → Calls Try.prog 15 #[.slice A1 r.length c1, .int .i64 1] W fun e w' => e = .returned (.int .i64 (1 + 4 * T)) ∧ Drawn0 W w' := by
    intro W h1 h2
    have := laws_heldMoveSS.calls 20000 A1 c1 (mkLL r) 1 (1 + 4 * T) W h1 h2 HHE.out
    rwa [HL.out] at this
  have hz : (mkLL r).length ≤ c1 := by have := HC4.out.2.1; have := HL.out; omega
  go_wp2_with fail
  refine (HH _ HC4.out.2.2 hz).mono ?_
  rintro e w' ⟨rfl, ⟨nd, rfl⟩⟩
  have HX := Aside0.mk (pw_below_drewN HX.out nd)
  have HC := Aside0.mk (Kd.C_drewN HC4.out.2.2 nd)
  have d2 : ((1 + 4 * T) != 1 + 4 * T) = false := bne_eq_false_iff_eq.mpr rfl
  go_wp2_with fail
  refine (HI _).mono ?_
  rintro e w6 ⟨v2, rfl, ho2, hB⟩
  obtain ⟨A2, c2, rfl⟩ := Kd.S_slice ho2
  have HR2 := Aside0.mk (Kd.S_reads' ho2)
  have HC := Aside0.mk (Kd.C_below HC.out hB)
  have HX := Aside0.mk (below_step HX.out hB)
  clear ho2 hB
  go_wp2_with fail
  refine (laws_eqMoveSS.calls 20000 A2 c2 r A0 c0 r true _ HR2.out.2.2 HR2.out.2.1 (Kd.C_below HR0.out.2.2 HX.out) HR0.out.2.1 HEQ.out).mono ?_
  rintro e w7 ⟨rfl, hb⟩
  have HC := Aside0.mk (Kd.C_below HC.out hb)
  have HX := Aside0.mk (below_step HX.out hb)
  clear hb
  go_wp2_with fail
  refine (HH _ HC.out hz).mono ?_
  rintro e w' ⟨rfl, ⟨nd3, rfl⟩⟩
  go_wp2_with fail
  go_ret
  exact ⟨rfl, by repeat (first | exact below_step HB.out HX.out | apply pw_below_drewN)⟩
theorem laws_FnExactRing.calls (a0 : Int) (r : Bool) (w : World) (h : true = r) :
    Calls Try.prog 3 #[.int .i64 a0] w fun e w' => e = .returned (.bool r) ∧ Below w.heap.size w w' := by
  subst h
  exact law_walk a0 w
end Go.Proofs.Ytkbbgjoohffooaa.PFnExactRing
namespace Go.Proofs.Ytkbbgjoohffooaa.Pure
set_option linter.unusedVariables false in
theorem FnExactRing (a0 : Int) (w0 : (Lit.int .i64 a0).wf = true) : true = true := rfl
end Go.Proofs.Ytkbbgjoohffooaa.Pure
