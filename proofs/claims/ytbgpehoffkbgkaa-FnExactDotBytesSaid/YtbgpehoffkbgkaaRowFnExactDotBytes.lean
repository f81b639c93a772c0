/- laws.FnExactDotBytes: for every input the law returns true and its arguments read as before: the row of the statement FnExactDotBytesSaid, out of the printed contracts and the plain law in YtbgpehoffkbgkaaPureFnExactDotBytes. No condition. -/
import Derived.Test.YtbgpehoffkbgkaaRows
import Derived.Test.YtbgpehoffkbgkaaPFnExactDotBytesx3
import Derived.Test.YtbgpehoffkbgkaaPureFnExactDotBytes
import Derived.Test.YtbgpehoffkbgkaaAgg
import Derived.Test.YtbgpehoffkbgkaaOpens
import Derived.WalkKit
import Derived.ProofKit
import Derived.OpenShut
import Derived.ShutString
import Derived.ChangeOld
import Derived.Below
import Derived.Carry
import Derived.SizedLaws
namespace Go.Proofs.Ytbgpehoffkbgkaa.fnExactDotBytes
open Go.ChangeShapes Go.WideShapes Go.ChangeAt Go.RowKit
open Go.ChangeMaps (open_string shut_string)
set_option linter.unusedVariables false
set_option linter.unusedSimpArgs false
open Go.Proofs.YtbgpehoffkbgkaaW.PrintWords
theorem own : ownKnob Try.prog.godebug = none := by kernel_rfl
theorem laidOut : laidOutB Try.prog = true := by kernel_rfl
set_option maxRecDepth 100000 in
theorem lifted (os : Os) (started : os.Started) (H : Type) (enc : TypeId × Value → H) :
    ReturnsInHanded {} Try.checked os 12 .any (Rows.fnExactDotBytesSpec.pre6 enc Try.prog Try.f12 Rows.fnExactDotBytesRow.domain false) (Rows.fnExactDotBytesSpec.post enc Try.prog Try.f12 false true false false) := by
  refine returnsInHanded_of_change_sized (C := Try.checked) own started (by kernel_rfl) Try.func12
    (ChangeSpec.witness6 (enc := enc) (C := Try.checked) false ⟨#[], #[.agg #[.int .i64 0, .int .i64 0], .agg #[.int .i64 0, .int .i64 0], .slice none 0 0, .slice none 0 0], []⟩ 8 (by kernel_rfl) (by kernel_rfl) (by kernel_rfl) (by kernel_rfl)) ?_
  intro W base args ds gs before hval0 hW hcnd hsz0 _
  have hval : ∀ (j : Nat) t v, Try.f12.params[j]? = some t → args[j]? = some v → Value.okWide Try.prog W .any base t v := hval0
  have hW' := hW
  obtain ⟨p, q, hA0, hV, rfl, hfz, hnd⟩ := hW
  have hA : DataW.TrodAll enc Try.prog W 0 (fun _ => true) true Try.f12.params.toList args.toList ds p := hA0
  rw [Try.params12] at hA hval
  obtain ⟨v0, vs0, d0, ds0, p0, q0, hargs, rfl, rfl, h0, r0⟩ := trodAll_cons hA
  obtain ⟨v1, vs1, d1, ds1, p1, q1, rfl, rfl, rfl, h1, r1⟩ := trodAll_cons r0
  obtain ⟨v2, vs2, d2, ds2, p2, q2, rfl, rfl, rfl, h2, r2⟩ := trodAll_cons r1
  obtain ⟨v3, vs3, d3, ds3, p3, q3, rfl, rfl, rfl, h3, r3⟩ := trodAll_cons r2
  obtain ⟨rfl, rfl, rfl⟩ := trodAll_nil r3
  obtain rfl : args = #[v0, v1, v2, v3] := by cases args; simp_all
  obtain ⟨rfl, rfl⟩ := trodVars_none hV
  have h0k := h0
  obtain ⟨a0_0, a0_1, rfl, w0_0, w0_1⟩ := Agg.open_ints2 Try.underlying70 (by kernel_rfl) (by kernel_rfl) (hval 0 70 v0 rfl rfl) h0
  have lt0 : ∀ x ∈ p0, x.block < W.heap.size := fun x hx => hW'.lt x (by simp [hx])
  have h1k := h1
  obtain ⟨a1_0, a1_1, rfl, w1_0, w1_1⟩ := Agg.open_ints2 Try.underlying70 (by kernel_rfl) (by kernel_rfl) (hval 1 70 v1 rfl rfl) h1
  have lt1 : ∀ x ∈ p1, x.block < W.heap.size := fun x hx => hW'.lt x (by simp [hx])
  have h2k := h2
  obtain ⟨m2, f2⟩ := h2
  obtain ⟨s2, sl2, sc2, rfl⟩ := okWide_slice Try.underlying22 (hval 2 22 v2 rfl rfl)
  obtain ⟨A2, c2, l2, e2, hr2, hc2, hm2, hg2⟩ := Opens.open_slice_kd (Kd.int .i64) (fun x => (Lit.int .i64 x).wf = true) Try.underlying22 (by kernel_rfl) (Opens.el_int Try.underlying3) f2
  simp only [Value.cells] at e2
  obtain ⟨q1, q2, q3⟩ : s2 = A2 ∧ sl2 = l2.length ∧ sc2 = c2 := by simpa using e2
  obtain rfl := q1.symm
  obtain rfl := q2.symm
  obtain rfl := q3.symm
  have lt2 : ∀ x ∈ p2, x.block < W.heap.size := fun x hx => hW'.lt x (by simp [hx])
  have h3k := h3
  obtain ⟨m3, f3⟩ := h3
  obtain ⟨s3, sl3, sc3, rfl⟩ := okWide_slice Try.underlying22 (hval 3 22 v3 rfl rfl)
  obtain ⟨A3, c3, l3, e3, hr3, hc3, hm3, hg3⟩ := Opens.open_slice_kd (Kd.int .i64) (fun x => (Lit.int .i64 x).wf = true) Try.underlying22 (by kernel_rfl) (Opens.el_int Try.underlying3) f3
  simp only [Value.cells] at e3
  obtain ⟨q1, q2, q3⟩ : s3 = A3 ∧ sl3 = l3.length ∧ sc3 = c3 := by simpa using e3
  obtain rfl := q1.symm
  obtain rfl := q2.symm
  obtain rfl := q3.symm
  have lt3 : ∀ x ∈ p3, x.block < W.heap.size := fun x hx => hW'.lt x (by simp [hx])
  clear hA0 hval0 hsz0
  obtain ⟨k, h⟩ := Pure.FnExactDotBytes a0_0 a0_1 a1_0 a1_1 l2 l3 w0_0 w0_1 w1_0 w1_1 hm2 hg2 hm3 hg3
  refine (PFnExactDotBytes.laws_FnExactDotBytes.calls k a0_0 a0_1 a1_0 a1_1 A2 c2 l2 A3 c3 l3 true W hr2 hc2 hr3 hc3 h).mono fun e W' ⟨he, bel0⟩ => ?_
  subst he
  have bel : Below W.heap.size W W' := bel0
  exact ⟨_, rfl, _, _, _, [], _, [], hW', trodAll_mk1 (shut_bool Try.underlying4 _), (trodAll_cons_mk (Below.trod laidOut (by kernel_rfl) (of_decide_eq_true (by kernel_rfl)) h0k bel lt0) (trodAll_cons_mk (Below.trod laidOut (by kernel_rfl) (of_decide_eq_true (by kernel_rfl)) h1k bel lt1) (trodAll_cons_mk (Below.trod laidOut (by kernel_rfl) (of_decide_eq_true (by kernel_rfl)) h2k bel lt2) (trodAll_cons_mk (Below.trod laidOut (by kernel_rfl) (of_decide_eq_true (by kernel_rfl)) h3k bel lt3) trodAll_mk0)))), rfl, bel.frame _, fun h => by cases h⟩
theorem over : Rows.fnExactDotBytesRow.holds Try.pinned (OpenSpec.ofChange Rows.fnExactDotBytesSpec) :=
  OpenClaim.holds_of_wide 12 Try.f12 rfl rfl rfl rfl rfl rfl rfl ⟨rfl, rfl, rfl, rfl, rfl⟩ rfl rfl rfl rfl rfl (by kernel_rfl) Try.func12 (by kernel_rfl)
    (of_decide_eq_true (by kernel_rfl)) (by unfold Func.isWrapper; first | (rw [if_pos (by decide +kernel)]; kernel_rfl) | (rw [if_neg (by decide +kernel)]; exact ⟨rfl, rfl⟩))
    (fun os started H enc _ => lifted os started H enc)
theorem proved : Rows.FnExactDotBytesSaid := over
#print axioms proved
end Go.Proofs.Ytbgpehoffkbgkaa.fnExactDotBytes
namespace Go.Proofs.Ytbgpehoffkbgkaa
/-- The row, under a short name, for the claim. -/
theorem fnExactDotBytes_holds : Rows.FnExactDotBytesSaid := fnExactDotBytes.proved
end Go.Proofs.Ytbgpehoffkbgkaa
