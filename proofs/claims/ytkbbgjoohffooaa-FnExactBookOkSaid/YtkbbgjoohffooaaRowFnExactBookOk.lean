/- laws.FnExactBookOk: for every input the law returns true and its arguments read as before: the row of the statement FnExactBookOkSaid, out of the printed contracts and the plain law in YtkbbgjoohffooaaPureFnExactBookOk. No condition. -/
import Derived.Test.YtkbbgjoohffooaaRows
import Derived.Test.YtkbbgjoohffooaaHandFnExactBookOk
import Derived.Test.YtkbbgjoohffooaaAgg
import Derived.Test.YtkbbgjoohffooaaOpens
import Derived.WalkKit
import Derived.ProofKit
import Derived.OpenShut
import Derived.ShutString
import Derived.ChangeOld
import Derived.Below
import Derived.Carry
import Derived.SizedLaws
namespace Go.Proofs.Ytkbbgjoohffooaa.fnExactBookOk
open Go.ChangeShapes Go.WideShapes Go.ChangeAt Go.RowKit
open Go.ChangeMaps (open_string shut_string)
set_option linter.unusedVariables false
set_option linter.unusedSimpArgs false
open Go.Proofs.YtkbbgjoohffooaaW.PrintWords
theorem el_k79 {H : Type} {enc : TypeId × Value → H} {w : World} {base : Nat} {spare : Nat → Bool} {held : Bool} : ∀ m cs (x : DataW H × List MemPlace), DataW.trod enc Try.prog w base spare held m 79 cs = some x → ∃ p, PFnExactBookOk.k79.K w p cs ∧ (fun x : PFnExactBookOk.S79 => (Lit.int .i64 x.f0).wf = true ∧ (Lit.int .i64 x.f1).wf = true) p := by
  intro m cs x h
  obtain ⟨hl, hc⟩ := Opens.el_ints 2 Try.underlying79 (by kernel_rfl) (by kernel_rfl) m cs x h
  match cs, hl with
  | [c0, c1], _ =>
    obtain ⟨a0, rfl, w0⟩ := hc c0 (by simp)
    obtain ⟨a1, rfl, w1⟩ := hc c1 (by simp)
    exact ⟨⟨a0, a1⟩, ⟨[.int .i64 a0], [.int .i64 a1], rfl, rfl, rfl⟩, w0, w1⟩
theorem own : ownKnob Try.prog.godebug = none := by kernel_rfl
theorem laidOut : laidOutB Try.prog = true := by kernel_rfl
set_option maxRecDepth 100000 in
theorem lifted (os : Os) (started : os.Started) (H : Type) (enc : TypeId × Value → H) :
    ReturnsInHanded {} Try.checked os 6 .any (Rows.fnExactBookOkSpec.pre6 enc Try.prog Try.f6 Rows.fnExactBookOkRow.domain false) (Rows.fnExactBookOkSpec.post enc Try.prog Try.f6 false true false false) := by
  refine returnsInHanded_of_change_sized (C := Try.checked) own started (by kernel_rfl) Try.func6
    (ChangeSpec.witness6 (enc := enc) (C := Try.checked) false ⟨#[], #[.slice none 0 0], []⟩ 8 (by kernel_rfl) (by kernel_rfl) (by kernel_rfl) (by kernel_rfl)) ?_
  intro W base args ds gs before hval0 hW hcnd hsz0 _
  have hval : ∀ (j : Nat) t v, Try.f6.params[j]? = some t → args[j]? = some v → Value.okWide Try.prog W .any base t v := hval0
  have hW' := hW
  obtain ⟨p, q, hA0, hV, rfl, hfz, hnd⟩ := hW
  have hA : DataW.TrodAll enc Try.prog W 0 (fun _ => true) true Try.f6.params.toList args.toList ds p := hA0
  rw [Try.params6] at hA hval
  obtain ⟨v0, vs0, d0, ds0, p0, q0, hargs, rfl, rfl, h0, r0⟩ := trodAll_cons hA
  obtain ⟨rfl, rfl, rfl⟩ := trodAll_nil r0
  obtain rfl : args = #[v0] := by cases args; simp_all
  obtain ⟨rfl, rfl⟩ := trodVars_none hV
  have h0k := h0
  obtain ⟨m0, f0⟩ := h0
  obtain ⟨s0, sl0, sc0, rfl⟩ := okWide_slice Try.underlying36 (hval 0 36 v0 rfl rfl)
  obtain ⟨A0, c0, l0, e0, hr0, hc0, hm0, hg0⟩ := Opens.open_slice_kd PFnExactBookOk.k79 (fun x : PFnExactBookOk.S79 => (Lit.int .i64 x.f0).wf = true ∧ (Lit.int .i64 x.f1).wf = true) Try.underlying36 (by kernel_rfl) el_k79 f0
  simp only [Value.cells] at e0
  obtain ⟨q1, q2, q3⟩ : s0 = A0 ∧ sl0 = l0.length ∧ sc0 = c0 := by simpa using e0
  obtain rfl := q1.symm
  obtain rfl := q2.symm
  obtain rfl := q3.symm
  have lt0 : ∀ x ∈ p0, x.block < W.heap.size := fun x hx => hW'.lt x (by simp [hx])
  clear hA0 hval0 hsz0
  have h := Pure.FnExactBookOk l0 hm0 hg0
  refine (PFnExactBookOk.laws_FnExactBookOk.calls A0 c0 l0 true W hr0 hc0 h).mono fun e W' ⟨he, bel0⟩ => ?_
  subst he
  have bel : Below W.heap.size W W' := bel0
  exact ⟨_, rfl, _, _, _, [], _, [], hW', trodAll_mk1 (shut_bool Try.underlying4 _), (trodAll_cons_mk (Below.trod laidOut (by kernel_rfl) (of_decide_eq_true (by kernel_rfl)) h0k bel lt0) trodAll_mk0), rfl, bel.frame _, fun h => by cases h⟩
theorem over : Rows.fnExactBookOkRow.holds Try.pinned (OpenSpec.ofChange Rows.fnExactBookOkSpec) :=
  OpenClaim.holds_of_wide 6 Try.f6 rfl rfl rfl rfl rfl rfl rfl ⟨rfl, rfl, rfl, rfl, rfl⟩ rfl rfl rfl rfl rfl (by kernel_rfl) Try.func6 (by kernel_rfl)
    (of_decide_eq_true (by kernel_rfl)) (by unfold Func.isWrapper; first | (rw [if_pos (by decide +kernel)]; kernel_rfl) | (rw [if_neg (by decide +kernel)]; exact ⟨rfl, rfl⟩))
    (fun os started H enc _ => lifted os started H enc)
theorem proved : Rows.FnExactBookOkSaid := over
#print axioms proved
end Go.Proofs.Ytkbbgjoohffooaa.fnExactBookOk
namespace Go.Proofs.Ytkbbgjoohffooaa
/-- The row, under a short name, for the claim. -/
theorem fnExactBookOk_holds : Rows.FnExactBookOkSaid := fnExactBookOk.proved
end Go.Proofs.Ytkbbgjoohffooaa
