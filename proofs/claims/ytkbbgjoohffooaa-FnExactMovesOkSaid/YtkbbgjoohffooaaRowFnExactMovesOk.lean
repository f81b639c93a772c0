/- laws.FnExactMovesOk: for every input the law returns true and its arguments read as before: the row of the statement FnExactMovesOkSaid, out of the printed contracts and the plain law in YtkbbgjoohffooaaPureFnExactMovesOk. No condition. -/
import Derived.Test.YtkbbgjoohffooaaRows
import Derived.Test.YtkbbgjoohffooaaHandFnExactMovesOk
import Derived.Test.YtkbbgjoohffooaaAgg
import Derived.Test.YtkbbgjoohffooaaOpens
import Derived.WalkKit
import Derived.ProofKit
import Derived.OpenShut
import Derived.ShutString
import Derived.ChangeOld
import Derived.Below
import Derived.Carry
import Derived.SizedLaws
namespace Go.Proofs.Ytkbbgjoohffooaa.fnExactMovesOk
open Go.ChangeShapes Go.WideShapes Go.ChangeAt Go.RowKit
open Go.ChangeMaps (open_string shut_string)
set_option linter.unusedVariables false
set_option linter.unusedSimpArgs false
open Go.Proofs.YtkbbgjoohffooaaW.PrintWords
theorem own : ownKnob Try.prog.godebug = none := by kernel_rfl
theorem laidOut : laidOutB Try.prog = true := by kernel_rfl
set_option maxRecDepth 100000 in
theorem lifted (os : Os) (started : os.Started) (H : Type) (enc : TypeId × Value → H) :
    ReturnsInHanded {} Try.checked os 7 .any (Rows.fnExactMovesOkSpec.pre6 enc Try.prog Try.f7 Rows.fnExactMovesOkRow.domain false) (Rows.fnExactMovesOkSpec.post enc Try.prog Try.f7 false true false false) := by
  refine returnsInHanded_of_change_sized (C := Try.checked) own started (by kernel_rfl) Try.func7
    (ChangeSpec.witness6 (enc := enc) (C := Try.checked) false ⟨#[], #[.slice none 0 0, .int .i64 0, .int .i64 0], []⟩ 8 (by kernel_rfl) (by kernel_rfl) (by kernel_rfl) (by kernel_rfl)) ?_
  intro W base args ds gs before hval0 hW hcnd hsz0 _
  have hval : ∀ (j : Nat) t v, Try.f7.params[j]? = some t → args[j]? = some v → Value.okWide Try.prog W .any base t v := hval0
  have hW' := hW
  obtain ⟨p, q, hA0, hV, rfl, hfz, hnd⟩ := hW
  have hA : DataW.TrodAll enc Try.prog W 0 (fun _ => true) true Try.f7.params.toList args.toList ds p := hA0
  rw [Try.params7] at hA hval
  obtain ⟨v0, vs0, d0, ds0, p0, q0, hargs, rfl, rfl, h0, r0⟩ := trodAll_cons hA
  obtain ⟨v1, vs1, d1, ds1, p1, q1, rfl, rfl, rfl, h1, r1⟩ := trodAll_cons r0
  obtain ⟨v2, vs2, d2, ds2, p2, q2, rfl, rfl, rfl, h2, r2⟩ := trodAll_cons r1
  obtain ⟨rfl, rfl, rfl⟩ := trodAll_nil r2
  obtain rfl : args = #[v0, v1, v2] := by cases args; simp_all
  obtain ⟨rfl, rfl⟩ := trodVars_none hV
  have h0k := h0
  obtain ⟨m0, f0⟩ := h0
  obtain ⟨s0, sl0, sc0, rfl⟩ := okWide_slice Try.underlying45 (hval 0 45 v0 rfl rfl)
  obtain ⟨A0, c0, l0, e0, hr0, hc0, hm0, hg0⟩ := Opens.open_slice_kd (Kd.slice 99 PFnExactMovesOk.k99) (fun x => x.length ≤ maxLen ∧ ∀ y ∈ x, PFnExactMovesOk.good99 y) Try.underlying45 (by kernel_rfl) (Opens.el_slice PFnExactMovesOk.k99 PFnExactMovesOk.good99 99 Try.underlying82 (by kernel_rfl) PFnExactMovesOk.el_k99) f0
  simp only [Value.cells] at e0
  obtain ⟨q1, q2, q3⟩ : s0 = A0 ∧ sl0 = l0.length ∧ sc0 = c0 := by simpa using e0
  obtain rfl := q1.symm
  obtain rfl := q2.symm
  obtain rfl := q3.symm
  have lt0 : ∀ x ∈ p0, x.block < W.heap.size := fun x hx => hW'.lt x (by simp [hx])
  obtain ⟨a1, rfl, rfl, rfl, w1⟩ := open_int Try.underlying3 (hval 1 3 v1 rfl rfl) h1
  obtain ⟨a2, rfl, rfl, rfl, w2⟩ := open_int Try.underlying3 (hval 2 3 v2 rfl rfl) h2
  clear hA0 hval0 hsz0
  have h := Pure.FnExactMovesOk l0 a1 a2 hm0 hg0 w1 w2
  refine (PFnExactMovesOk.laws_FnExactMovesOk.calls A0 c0 l0 a1 a2 true W hr0 hc0 h).mono fun e W' ⟨he, bel0⟩ => ?_
  subst he
  have bel : Below W.heap.size W W' := bel0
  exact ⟨_, rfl, _, _, _, [], _, [], hW', trodAll_mk1 (shut_bool Try.underlying4 _), (trodAll_cons_mk (Below.trod laidOut (by kernel_rfl) (of_decide_eq_true (by kernel_rfl)) h0k bel lt0) (trodAll_cons_mk (shut_int Try.underlying3 w1) (trodAll_cons_mk (shut_int Try.underlying3 w2) trodAll_mk0))), rfl, bel.frame _, fun h => by cases h⟩
theorem over : Rows.fnExactMovesOkRow.holds Try.pinned (OpenSpec.ofChange Rows.fnExactMovesOkSpec) :=
  OpenClaim.holds_of_wide 7 Try.f7 rfl rfl rfl rfl rfl rfl rfl ⟨rfl, rfl, rfl, rfl, rfl⟩ rfl rfl rfl rfl rfl (by kernel_rfl) Try.func7 (by kernel_rfl)
    (of_decide_eq_true (by kernel_rfl)) (by unfold Func.isWrapper; first | (rw [if_pos (by decide +kernel)]; kernel_rfl) | (rw [if_neg (by decide +kernel)]; exact ⟨rfl, rfl⟩))
    (fun os started H enc _ => lifted os started H enc)
theorem proved : Rows.FnExactMovesOkSaid := over
#print axioms proved
end Go.Proofs.Ytkbbgjoohffooaa.fnExactMovesOk
namespace Go.Proofs.Ytkbbgjoohffooaa
/-- The row, under a short name, for the claim. -/
theorem fnExactMovesOk_holds : Rows.FnExactMovesOkSaid := fnExactMovesOk.proved
end Go.Proofs.Ytkbbgjoohffooaa
