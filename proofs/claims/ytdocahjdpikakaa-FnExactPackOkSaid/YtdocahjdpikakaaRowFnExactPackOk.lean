/- laws.FnExactPackOk: for every input the law returns true and its arguments read as before: the row of the statement FnExactPackOkSaid, out of the printed contracts and the plain law in YtdocahjdpikakaaPureFnExactPackOk. No condition. -/
import Derived.Test.YtdocahjdpikakaaRows
import Derived.Test.YtdocahjdpikakaaPFnExactPackOkx6
import Derived.Test.YtdocahjdpikakaaPureFnExactPackOk
import Derived.Test.YtdocahjdpikakaaAgg
import Derived.Test.YtdocahjdpikakaaOpens
import Derived.WalkKit
import Derived.ProofKit
import Derived.OpenShut
import Derived.ShutString
import Derived.ChangeOld
import Derived.Below
import Derived.Carry
import Derived.SizedLaws
namespace Go.Proofs.Ytdocahjdpikakaa.fnExactPackOk
open Go.ChangeShapes Go.WideShapes Go.ChangeAt Go.RowKit
open Go.ChangeMaps (open_string shut_string)
set_option linter.unusedVariables false
set_option linter.unusedSimpArgs false
open Go.Proofs.YtdocahjdpikakaaW.PrintWords
theorem el_k74 {H : Type} {enc : TypeId × Value → H} {w : World} {base : Nat} {spare : Nat → Bool} {held : Bool} : ∀ m cs (x : DataW H × List MemPlace), DataW.trod enc Try.prog w base spare held m 74 cs = some x → ∃ p, PFnExactPackOk.k74.K w p cs ∧ (fun x : PFnExactPackOk.S74 => (Lit.int .i64 x.f0).wf = true ∧ (Lit.int .i64 x.f1).wf = true ∧ (Lit.int .i64 x.f2).wf = true ∧ (Lit.int .i64 x.f3).wf = true) p := by
  intro m cs x h
  obtain ⟨hl, hc⟩ := Opens.el_ints 4 Try.underlying74 (by kernel_rfl) (by kernel_rfl) m cs x h
  match cs, hl with
  | [c0, c1, c2, c3], _ =>
    obtain ⟨a0, rfl, w0⟩ := hc c0 (by simp)
    obtain ⟨a1, rfl, w1⟩ := hc c1 (by simp)
    obtain ⟨a2, rfl, w2⟩ := hc c2 (by simp)
    obtain ⟨a3, rfl, w3⟩ := hc c3 (by simp)
    exact ⟨⟨a0, a1, a2, a3⟩, ⟨[.int .i64 a0], [.int .i64 a1, .int .i64 a2, .int .i64 a3], rfl, rfl, [.int .i64 a1], [.int .i64 a2, .int .i64 a3], rfl, rfl, [.int .i64 a2], [.int .i64 a3], rfl, rfl, rfl⟩, w0, w1, w2, w3⟩
theorem own : ownKnob Try.prog.godebug = none := by kernel_rfl
theorem laidOut : laidOutB Try.prog = true := by kernel_rfl
set_option maxRecDepth 100000 in
theorem lifted (os : Os) (started : os.Started) (H : Type) (enc : TypeId × Value → H) :
    ReturnsInHanded {} Try.checked os 3 .any (Rows.fnExactPackOkSpec.pre6 enc Try.prog Try.f3 Rows.fnExactPackOkRow.domain false) (Rows.fnExactPackOkSpec.post enc Try.prog Try.f3 false true false false) := by
  refine returnsInHanded_of_change_sized (C := Try.checked) own started (by kernel_rfl) Try.func3
    (ChangeSpec.witness6 (enc := enc) (C := Try.checked) false ⟨#[], #[.slice none 0 0, .slice none 0 0], []⟩ 8 (by kernel_rfl) (by kernel_rfl) (by kernel_rfl) (by kernel_rfl)) ?_
  intro W base args ds gs before hval0 hW hcnd hsz0 _
  have hval : ∀ (j : Nat) t v, Try.f3.params[j]? = some t → args[j]? = some v → Value.okWide Try.prog W .any base t v := hval0
  have hW' := hW
  obtain ⟨p, q, hA0, hV, rfl, hfz, hnd⟩ := hW
  have hA : DataW.TrodAll enc Try.prog W 0 (fun _ => true) true Try.f3.params.toList args.toList ds p := hA0
  rw [Try.params3] at hA hval
  obtain ⟨v0, vs0, d0, ds0, p0, q0, hargs, rfl, rfl, h0, r0⟩ := trodAll_cons hA
  obtain ⟨v1, vs1, d1, ds1, p1, q1, rfl, rfl, rfl, h1, r1⟩ := trodAll_cons r0
  obtain ⟨rfl, rfl, rfl⟩ := trodAll_nil r1
  obtain rfl : args = #[v0, v1] := by cases args; simp_all
  obtain ⟨rfl, rfl⟩ := trodVars_none hV
  have h0k := h0
  obtain ⟨m0, f0⟩ := h0
  obtain ⟨s0, sl0, sc0, rfl⟩ := okWide_slice Try.underlying22 (hval 0 22 v0 rfl rfl)
  obtain ⟨A0, c0, l0, e0, hr0, hc0, hm0, hg0⟩ := Opens.open_slice_kd PFnExactPackOk.k74 (fun x : PFnExactPackOk.S74 => (Lit.int .i64 x.f0).wf = true ∧ (Lit.int .i64 x.f1).wf = true ∧ (Lit.int .i64 x.f2).wf = true ∧ (Lit.int .i64 x.f3).wf = true) Try.underlying22 (by kernel_rfl) el_k74 f0
  simp only [Value.cells] at e0
  obtain ⟨q1, q2, q3⟩ : s0 = A0 ∧ sl0 = l0.length ∧ sc0 = c0 := by simpa using e0
  obtain rfl := q1.symm
  obtain rfl := q2.symm
  obtain rfl := q3.symm
  have lt0 : ∀ x ∈ p0, x.block < W.heap.size := fun x hx => hW'.lt x (by simp [hx])
  have h1k := h1
  obtain ⟨m1, f1⟩ := h1
  obtain ⟨s1, sl1, sc1, rfl⟩ := okWide_slice Try.underlying23 (hval 1 23 v1 rfl rfl)
  obtain ⟨A1, c1, l1, e1, hr1, hc1, hm1, hg1⟩ := Opens.open_slice_kd (Kd.int .i64) (fun x => (Lit.int .i64 x).wf = true) Try.underlying23 (by kernel_rfl) (Opens.el_int Try.underlying3) f1
  simp only [Value.cells] at e1
  obtain ⟨q1, q2, q3⟩ : s1 = A1 ∧ sl1 = l1.length ∧ sc1 = c1 := by simpa using e1
  obtain rfl := q1.symm
  obtain rfl := q2.symm
  obtain rfl := q3.symm
  have lt1 : ∀ x ∈ p1, x.block < W.heap.size := fun x hx => hW'.lt x (by simp [hx])
  clear hA0 hval0 hsz0
  obtain ⟨k, h⟩ := Pure.FnExactPackOk l0 l1 hm0 hg0 hm1 hg1
  refine (PFnExactPackOk.laws_FnExactPackOk.calls k A0 c0 l0 A1 c1 l1 true W hr0 hc0 hr1 hc1 h).mono fun e W' ⟨he, bel0⟩ => ?_
  subst he
  have bel : Below W.heap.size W W' := bel0
  exact ⟨_, rfl, _, _, _, [], _, [], hW', trodAll_mk1 (shut_bool Try.underlying4 _), (trodAll_cons_mk (Below.trod laidOut (by kernel_rfl) (of_decide_eq_true (by kernel_rfl)) h0k bel lt0) (trodAll_cons_mk (Below.trod laidOut (by kernel_rfl) (of_decide_eq_true (by kernel_rfl)) h1k bel lt1) trodAll_mk0)), rfl, bel.frame _, fun h => by cases h⟩
theorem over : Rows.fnExactPackOkRow.holds Try.pinned (OpenSpec.ofChange Rows.fnExactPackOkSpec) :=
  OpenClaim.holds_of_wide 3 Try.f3 rfl rfl rfl rfl rfl rfl rfl ⟨rfl, rfl, rfl, rfl, rfl⟩ rfl rfl rfl rfl rfl (by kernel_rfl) Try.func3 (by kernel_rfl)
    (of_decide_eq_true (by kernel_rfl)) (by unfold Func.isWrapper; first | (rw [if_pos (by decide +kernel)]; kernel_rfl) | (rw [if_neg (by decide +kernel)]; exact ⟨rfl, rfl⟩))
    (fun os started H enc _ => lifted os started H enc)
theorem proved : Rows.FnExactPackOkSaid := over
#print axioms proved
end Go.Proofs.Ytdocahjdpikakaa.fnExactPackOk
namespace Go.Proofs.Ytdocahjdpikakaa
/-- The row, under a short name, for the claim. -/
theorem fnExactPackOk_holds : Rows.FnExactPackOkSaid := fnExactPackOk.proved
end Go.Proofs.Ytdocahjdpikakaa
