/- laws.FnExactCacheOk: for every input the law returns true and its arguments read as before: the row of the statement FnExactCacheOkSaid, out of the printed contracts and the plain law in YtkbbgjoohffooaaPureFnExactCacheOk. No condition. -/
import Derived.Test.YtkbbgjoohffooaaRows
import Derived.Test.YtkbbgjoohffooaaHandFnExactCacheOk
import Derived.Test.YtkbbgjoohffooaaAgg
import Derived.Test.YtkbbgjoohffooaaOpens
import Derived.WalkKit
import Derived.ProofKit
import Derived.OpenShut
import Derived.ShutString
import Derived.ChangeOld
import Derived.Below
import Derived.Carry
import Derived.SizedLaws
namespace Go.Proofs.Ytkbbgjoohffooaa.fnExactCacheOk
open Go.ChangeShapes Go.WideShapes Go.ChangeAt Go.RowKit
open Go.ChangeMaps (open_string shut_string)
set_option linter.unusedVariables false
set_option linter.unusedSimpArgs false
open Go.Proofs.YtkbbgjoohffooaaW.PrintWords
theorem own : ownKnob Try.prog.godebug = none := by kernel_rfl
theorem laidOut : laidOutB Try.prog = true := by kernel_rfl
set_option maxRecDepth 100000 in
theorem lifted (os : Os) (started : os.Started) (H : Type) (enc : TypeId × Value → H) :
    ReturnsInHanded {} Try.checked os 10 .any (Rows.fnExactCacheOkSpec.pre6 enc Try.prog Try.f10 Rows.fnExactCacheOkRow.domain false) (Rows.fnExactCacheOkSpec.post enc Try.prog Try.f10 false true false false) := by
  refine returnsInHanded_of_change_sized (C := Try.checked) own started (by kernel_rfl) Try.func10
    (ChangeSpec.witness6 (enc := enc) (C := Try.checked) false ⟨#[], #[.agg #[.slice none 0 0, .slice none 0 0]], []⟩ 8 (by kernel_rfl) (by kernel_rfl) (by kernel_rfl) (by kernel_rfl)) ?_
  intro W base args ds gs before hval0 hW hcnd hsz0 _
  have hval : ∀ (j : Nat) t v, Try.f10.params[j]? = some t → args[j]? = some v → Value.okWide Try.prog W .any base t v := hval0
  have hW' := hW
  obtain ⟨p, q, hA0, hV, rfl, hfz, hnd⟩ := hW
  have hA : DataW.TrodAll enc Try.prog W 0 (fun _ => true) true Try.f10.params.toList args.toList ds p := hA0
  rw [Try.params10] at hA hval
  obtain ⟨v0, vs0, d0, ds0, p0, q0, hargs, rfl, rfl, h0, r0⟩ := trodAll_cons hA
  obtain ⟨rfl, rfl, rfl⟩ := trodAll_nil r0
  obtain rfl : args = #[v0] := by cases args; simp_all
  obtain ⟨rfl, rfl⟩ := trodVars_none hV
  have h0k := h0
  obtain ⟨u0_0, u0_1, rfl, ⟨m0_0, y0_0, t0_0⟩, ⟨m0_1, y0_1, t0_1⟩⟩ := Opens.open_fields2 Try.underlying58 (by kernel_rfl) (by kernel_rfl) (hval 0 58 v0 rfl rfl) h0
  obtain ⟨A0_0, c0_0, l0_0, e0_0, hr0_0, hc0_0, hm0_0, hg0_0⟩ := Opens.open_slice_kd (Kd.slice 3 (Kd.int .i64)) (fun x => x.length ≤ maxLen ∧ ∀ y ∈ x, (fun x => (Lit.int .i64 x).wf = true) y) Try.underlying27 (by kernel_rfl) (Opens.el_slice (Kd.int .i64) (fun x => (Lit.int .i64 x).wf = true) 3 Try.underlying29 (by kernel_rfl) (Opens.el_int Try.underlying3)) t0_0
  obtain rfl : u0_0 = .slice A0_0 l0_0.length c0_0 := by simpa using e0_0
  obtain ⟨A0_1, c0_1, l0_1, e0_1, hr0_1, hc0_1, hm0_1, hg0_1⟩ := Opens.open_slice_kd (Kd.slice 3 (Kd.int .i64)) (fun x => x.length ≤ maxLen ∧ ∀ y ∈ x, (fun x => (Lit.int .i64 x).wf = true) y) Try.underlying27 (by kernel_rfl) (Opens.el_slice (Kd.int .i64) (fun x => (Lit.int .i64 x).wf = true) 3 Try.underlying29 (by kernel_rfl) (Opens.el_int Try.underlying3)) t0_1
  obtain rfl : u0_1 = .slice A0_1 l0_1.length c0_1 := by simpa using e0_1
  have lt0 : ∀ x ∈ p0, x.block < W.heap.size := fun x hx => hW'.lt x (by simp [hx])
  clear hA0 hval0 hsz0
  have h := Pure.FnExactCacheOk l0_0 l0_1 hm0_0 hg0_0 hm0_1 hg0_1
  refine (PFnExactCacheOk.laws_FnExactCacheOk.calls A0_0 c0_0 l0_0 A0_1 c0_1 l0_1 true W hr0_0 hc0_0 hr0_1 hc0_1 h).mono fun e W' ⟨he, bel0⟩ => ?_
  subst he
  have bel : Below W.heap.size W W' := bel0
  exact ⟨_, rfl, _, _, _, [], _, [], hW', trodAll_mk1 (shut_bool Try.underlying4 _), (trodAll_cons_mk (Below.trod laidOut (by kernel_rfl) (of_decide_eq_true (by kernel_rfl)) h0k bel lt0) trodAll_mk0), rfl, bel.frame _, fun h => by cases h⟩
theorem over : Rows.fnExactCacheOkRow.holds Try.pinned (OpenSpec.ofChange Rows.fnExactCacheOkSpec) :=
  OpenClaim.holds_of_wide 10 Try.f10 rfl rfl rfl rfl rfl rfl rfl ⟨rfl, rfl, rfl, rfl, rfl⟩ rfl rfl rfl rfl rfl (by kernel_rfl) Try.func10 (by kernel_rfl)
    (of_decide_eq_true (by kernel_rfl)) (by unfold Func.isWrapper; first | (rw [if_pos (by decide +kernel)]; kernel_rfl) | (rw [if_neg (by decide +kernel)]; exact ⟨rfl, rfl⟩))
    (fun os started H enc _ => lifted os started H enc)
theorem proved : Rows.FnExactCacheOkSaid := over
#print axioms proved
end Go.Proofs.Ytkbbgjoohffooaa.fnExactCacheOk
namespace Go.Proofs.Ytkbbgjoohffooaa
/-- The row, under a short name, for the claim. -/
theorem fnExactCacheOk_holds : Rows.FnExactCacheOkSaid := fnExactCacheOk.proved
end Go.Proofs.Ytkbbgjoohffooaa
