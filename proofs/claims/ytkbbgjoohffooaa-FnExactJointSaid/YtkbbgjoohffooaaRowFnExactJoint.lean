/- laws.FnExactJoint: for every input the law returns true and its arguments read as before: the row of the statement FnExactJointSaid, out of the printed contracts and the plain law in YtkbbgjoohffooaaPureFnExactJoint. No condition. -/
import Derived.Test.YtkbbgjoohffooaaRows
import Derived.Test.YtkbbgjoohffooaaHandFnExactJoint
import Derived.Test.YtkbbgjoohffooaaAgg
import Derived.Test.YtkbbgjoohffooaaOpens
import Derived.WalkKit
import Derived.ProofKit
import Derived.OpenShut
import Derived.ShutString
import Derived.ChangeOld
import Derived.Below
import Derived.Carry
import Derived.SizedLaws
namespace Go.Proofs.Ytkbbgjoohffooaa.fnExactJoint
open Go.ChangeShapes Go.WideShapes Go.ChangeAt Go.RowKit
open Go.ChangeMaps (open_string shut_string)
set_option linter.unusedVariables false
set_option linter.unusedSimpArgs false
open Go.Proofs.YtkbbgjoohffooaaW.PrintWords
theorem own : ownKnob Try.prog.godebug = none := by kernel_rfl
theorem laidOut : laidOutB Try.prog = true := by kernel_rfl
set_option maxRecDepth 100000 in
theorem lifted (os : Os) (started : os.Started) (H : Type) (enc : TypeId × Value → H) :
    ReturnsInHanded {} Try.checked os 9 .any (Rows.fnExactJointSpec.pre6 enc Try.prog Try.f9 Rows.fnExactJointRow.domain false) (Rows.fnExactJointSpec.post enc Try.prog Try.f9 false true false false) := by
  refine returnsInHanded_of_change_sized (C := Try.checked) own started (by kernel_rfl) Try.func9
    (ChangeSpec.witness6 (enc := enc) (C := Try.checked) false ⟨#[], #[.slice none 0 0, .slice none 0 0], []⟩ 8 (by kernel_rfl) (by kernel_rfl) (by kernel_rfl) (by kernel_rfl)) ?_
  intro W base args ds gs before hval0 hW hcnd hsz0 _
  have hval : ∀ (j : Nat) t v, Try.f9.params[j]? = some t → args[j]? = some v → Value.okWide Try.prog W .any base t v := hval0
  have hW' := hW
  obtain ⟨p, q, hA0, hV, rfl, hfz, hnd⟩ := hW
  have hA : DataW.TrodAll enc Try.prog W 0 (fun _ => true) true Try.f9.params.toList args.toList ds p := hA0
  rw [Try.params9] at hA hval
  obtain ⟨v0, vs0, d0, ds0, p0, q0, hargs, rfl, rfl, h0, r0⟩ := trodAll_cons hA
  obtain ⟨v1, vs1, d1, ds1, p1, q1, rfl, rfl, rfl, h1, r1⟩ := trodAll_cons r0
  obtain ⟨rfl, rfl, rfl⟩ := trodAll_nil r1
  obtain rfl : args = #[v0, v1] := by cases args; simp_all
  obtain ⟨rfl, rfl⟩ := trodVars_none hV
  have h0k := h0
  obtain ⟨m0, f0⟩ := h0
  obtain ⟨s0, sl0, sc0, rfl⟩ := okWide_slice Try.underlying29 (hval 0 29 v0 rfl rfl)
  obtain ⟨A0, c0, l0, e0, hr0, hc0, hm0, hg0⟩ := Opens.open_slice_kd (Kd.int .i64) (fun x => (Lit.int .i64 x).wf = true) Try.underlying29 (by kernel_rfl) (Opens.el_int Try.underlying3) f0
  simp only [Value.cells] at e0
  obtain ⟨q1, q2, q3⟩ : s0 = A0 ∧ sl0 = l0.length ∧ sc0 = c0 := by simpa using e0
  obtain rfl := q1.symm
  obtain rfl := q2.symm
  obtain rfl := q3.symm
  have lt0 : ∀ x ∈ p0, x.block < W.heap.size := fun x hx => hW'.lt x (by simp [hx])
  have h1k := h1
  obtain ⟨m1, f1⟩ := h1
  obtain ⟨s1, sl1, sc1, rfl⟩ := okWide_slice Try.underlying29 (hval 1 29 v1 rfl rfl)
  obtain ⟨A1, c1, l1, e1, hr1, hc1, hm1, hg1⟩ := Opens.open_slice_kd (Kd.int .i64) (fun x => (Lit.int .i64 x).wf = true) Try.underlying29 (by kernel_rfl) (Opens.el_int Try.underlying3) f1
  simp only [Value.cells] at e1
  obtain ⟨q1, q2, q3⟩ : s1 = A1 ∧ sl1 = l1.length ∧ sc1 = c1 := by simpa using e1
  obtain rfl := q1.symm
  obtain rfl := q2.symm
  obtain rfl := q3.symm
  have lt1 : ∀ x ∈ p1, x.block < W.heap.size := fun x hx => hW'.lt x (by simp [hx])
  clear hA0 hval0 hsz0
  have h := Pure.FnExactJoint l0 l1 hm0 hg0 hm1 hg1
  refine (PFnExactJoint.laws_FnExactJoint.calls A0 c0 l0 A1 c1 l1 true W hr0 hc0 hr1 hc1 h).mono fun e W' ⟨he, bel0⟩ => ?_
  subst he
  have bel : Below W.heap.size W W' := bel0
  exact ⟨_, rfl, _, _, _, [], _, [], hW', trodAll_mk1 (shut_bool Try.underlying4 _), (trodAll_cons_mk (Below.trod laidOut (by kernel_rfl) (of_decide_eq_true (by kernel_rfl)) h0k bel lt0) (trodAll_cons_mk (Below.trod laidOut (by kernel_rfl) (of_decide_eq_true (by kernel_rfl)) h1k bel lt1) trodAll_mk0)), rfl, bel.frame _, fun h => by cases h⟩
theorem over : Rows.fnExactJointRow.holds Try.pinned (OpenSpec.ofChange Rows.fnExactJointSpec) :=
  OpenClaim.holds_of_wide 9 Try.f9 rfl rfl rfl rfl rfl rfl rfl ⟨rfl, rfl, rfl, rfl, rfl⟩ rfl rfl rfl rfl rfl (by kernel_rfl) Try.func9 (by kernel_rfl)
    (of_decide_eq_true (by kernel_rfl)) (by unfold Func.isWrapper; first | (rw [if_pos (by decide +kernel)]; kernel_rfl) | (rw [if_neg (by decide +kernel)]; exact ⟨rfl, rfl⟩))
    (fun os started H enc _ => lifted os started H enc)
theorem proved : Rows.FnExactJointSaid := over
#print axioms proved
end Go.Proofs.Ytkbbgjoohffooaa.fnExactJoint
namespace Go.Proofs.Ytkbbgjoohffooaa
/-- The row, under a short name, for the claim. -/
theorem fnExactJoint_holds : Rows.FnExactJointSaid := fnExactJoint.proved
end Go.Proofs.Ytkbbgjoohffooaa
