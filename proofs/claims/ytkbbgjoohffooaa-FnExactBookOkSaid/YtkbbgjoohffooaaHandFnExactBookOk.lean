/- laws.FnExactBookOk, walked: the program's BookOk returns what the reference's returns. No condition. -/
import Derived.Test.YtkbbgjoohffooaaTextL
import Derived.Test.YtkbbgjoohffooaaOpens
namespace Go.Proofs.Ytkbbgjoohffooaa.PFnExactBookOk
open Go.RowKit Go.Proofs.Ytkbbgjoohffooaa.Aid Go.Proofs.Ytkbbgjoohffooaa.PFnExactTokenText Go.Proofs.Ytkbbgjoohffooaa.MapP Go.Proofs.Ytkbbgjoohffooaa.TextP Go.Proofs.Ytkbbgjoohffooaa.TextW Go.Proofs.Ytkbbgjoohffooaa.TextL Go.Proofs.YtkbbgjoohffooaaW.PrintWords Go.Proofs.YtkbbgjoohffooaaW.PrintLast Go.Proofs.YtkbbgjoohffooaaW.PrintMore
set_option linter.unusedVariables false
set_option linter.unusedSimpArgs false
abbrev S79 := Go.Proofs.Ytkbbgjoohffooaa.PFnExactTokenText.S79
abbrev k79 := Go.Proofs.Ytkbbgjoohffooaa.PFnExactTokenText.k79
set_option maxRecDepth 100000 in
set_option maxHeartbeats 1000000 in
theorem law_walk (A0 : Option Addr) (c0 : Nat) (l0 : List S79) (w : World) (hr0 : Kd.C k79 w A0 l0.length l0) (hc0 : l0.length ≤ c0) (hm0 : l0.length ≤ maxLen) (hg0 : ∀ y ∈ l0, (Lit.int .i64 y.f0).wf = true ∧ (Lit.int .i64 y.f1).wf = true) :
    Calls Try.prog 6 #[.slice A0 l0.length c0] w fun e w' => e = .returned (.bool true) ∧ Below w.heap.size w w' := by
  have hm : maxLen = 9223372036854775807 := rfl
  obtain ⟨t, ht⟩ : ∃ t : Int, t = 1048576 - (l0.length : Int) := ⟨_, rfl⟩
  have sz : laws_szPairS.f l0 1048576 = some (if t < 0 then -1 else t) := by
    unfold laws_szPairS.f
    rw [wid (x := 1048576 - (l0.length : Int)) (by omega) (by omega), ← ht]
    split <;> rfl
  have HSZ := laws_szPairS.calls A0 c0 l0 1048576 _ w hr0 hc0 sz
  by_cases ct : t < 0
  · rw [if_pos ct] at HSZ
    clear hr0 hg0 hm0 sz
    go_enter Try.func6, Try.ntmps6
    go_wp2_with fail
    refine HSZ.mono ?_
    rintro e w' ⟨rfl, ⟨nd, rfl⟩⟩
    go_wp2_with fail
    go_ret
    exact ⟨rfl, pw_below_drewN (Below.refl _ _) nd⟩
  · rw [if_neg ct] at HSZ
    have d1 : decide (t < 0) = false := decide_eq_false ct
    have hl : l0.length ≤ 1048576 := by omega
    obtain ⟨L, hL⟩ : ∃ L, L = l0.map cv := ⟨_, rfl⟩
    have hLl : L.length = l0.length := by rw [hL, List.length_map]
    have hLw : ∀ m ∈ L, wfP (keyP m) := by
      intro m hx
      rw [hL, List.mem_map] at hx
      obtain ⟨y, hy, rfl⟩ := hx
      exact hg0 y hy
    have HT : ∀ W, Below w.heap.size w W → Calls Try.prog 27 #[.slice A0 l0.length c0] W fun e w' => ∃ A cc, e = .returned (.slice A L.length cc) ∧ L.length ≤ cc ∧ Kd.C k77 w' A L.length L ∧ Below W.heap.size W w' := by
      intro W hb
      refine (laws_toPairS.calls (l0.length + 1) A0 c0 l0 (l0.map cv) W (Kd.C_below hr0 hb) hc0 (toPairS_ok l0 hl _ (by omega))).mono ?_
      rintro e w' ⟨v, rfl, hR, hB⟩
      rw [← hL] at hR
      obtain ⟨A, cc, rfl, hcc, hC⟩ := Kd.R_reads hR
      exact ⟨A, cc, rfl, hcc, hC, hB⟩
    have HSP := fun A cc W h hc => specBook A cc L W h hc
    have HIM := fun A cc W h hc => implBook A cc L W h hc (by omega) hLw
    obtain ⟨K2, hK2⟩ := eqS_ev L (by omega)
    have HEQ := fun A cc B dd W h hc h2 hc2 => laws_eqPairS.calls K2 A cc L B dd L true W h hc h2 hc2 (hK2 K2 (Nat.le_refl _))
    generalize (textsB L).2 = RES at HSP HIM
    clear hK2 hLw hLl hL hr0 hg0 hm0 hl sz ht hm
    have HH := Aside0.mk (And.intro HT (And.intro HSP (And.intro HIM HEQ)))
    clear HT HSP HIM HEQ
    go_enter Try.func6, Try.ntmps6
    go_wp2_with fail
    refine HSZ.mono ?_
    rintro e w1 ⟨rfl, ⟨nd, rfl⟩⟩
    clear HSZ
    have HB := Aside0.mk (pw_below_drewN (Below.refl w.heap.size w) nd)
    go_wp2_with fail
    refine (HH.out.1 _ HB.out).mono ?_
    rintro e w2 ⟨A1, k1, rfl, hc1, hC1, hb⟩
    have HB := Aside0.mk (below_step HB.out hb)
    have HC1 := Aside0.mk hC1
    clear hb hC1
    go_wp2_with fail
    refine (HH.out.2.1 _ _ _ HC1.out hc1).mono ?_
    rintro e w3 ⟨rfl, hb⟩
    have HB := Aside0.mk (below_step HB.out hb)
    clear hb HC1 hc1
    go_wp2_with fail
    refine (HH.out.1 _ HB.out).mono ?_
    rintro e w4 ⟨A2, k2, rfl, hc2, hC2, hb⟩
    have HB := Aside0.mk (below_step HB.out hb)
    have HC2 := Aside0.mk hC2
    clear hb hC2
    go_wp2_with fail
    refine (HH.out.2.2.1 _ _ _ HC2.out hc2).mono ?_
    rintro e w5 ⟨rfl, hb⟩
    have HB := Aside0.mk (below_step HB.out hb)
    have HC2 := Aside0.mk (Kd.C_below HC2.out hb)
    clear hb
    have d2 : (RES != RES) = false := by simp
    go_wp2_with fail
    refine (HH.out.1 _ HB.out).mono ?_
    rintro e w6 ⟨A3, k3, rfl, hc3, hC3, hb⟩
    have HB := Aside0.mk (below_step HB.out hb)
    have HC2 := Aside0.mk (Kd.C_below HC2.out hb)
    have HC3 := Aside0.mk hC3
    clear hb hC3
    go_wp2_with fail
    refine (HH.out.2.2.2 _ _ _ _ _ HC2.out hc2 HC3.out hc3).mono ?_
    rintro e w7 ⟨rfl, hb⟩
    have HB := Aside0.mk (below_step HB.out hb)
    clear hb
    go_wp2_with fail
    go_ret
    exact ⟨rfl, HB.out⟩
theorem laws_FnExactBookOk.calls (A0 : Option Addr) (c0 : Nat) (l0 : List S79) (r : Bool) (w : World) (hr0 : Kd.C k79 w A0 l0.length l0) (hc0 : l0.length ≤ c0) (h : (l0.length ≤ maxLen ∧ ∀ y ∈ l0, (Lit.int .i64 y.f0).wf = true ∧ (Lit.int .i64 y.f1).wf = true) ∧ true = r) :
    Calls Try.prog 6 #[.slice A0 l0.length c0] w fun e w' => e = .returned (.bool r) ∧ Below w.heap.size w w' := by
  obtain ⟨⟨h1, h2⟩, h⟩ := h
  subst h
  exact law_walk A0 c0 l0 w hr0 hc0 h1 h2
end Go.Proofs.Ytkbbgjoohffooaa.PFnExactBookOk
namespace Go.Proofs.Ytkbbgjoohffooaa.Pure
open Go.Proofs.Ytkbbgjoohffooaa.PFnExactTokenText in
set_option linter.unusedVariables false in
theorem FnExactBookOk (l0 : List S79) (h0 : l0.length ≤ maxLen) (g0 : ∀ p ∈ l0, (Lit.int .i64 p.f0).wf = true ∧ (Lit.int .i64 p.f1).wf = true) :
    (l0.length ≤ maxLen ∧ ∀ y ∈ l0, (Lit.int .i64 y.f0).wf = true ∧ (Lit.int .i64 y.f1).wf = true) ∧ true = true := ⟨⟨h0, g0⟩, rfl⟩
end Go.Proofs.Ytkbbgjoohffooaa.Pure
