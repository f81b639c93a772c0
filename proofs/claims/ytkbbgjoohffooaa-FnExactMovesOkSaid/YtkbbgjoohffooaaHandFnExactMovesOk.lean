/- laws.FnExactMovesOk, walked: the program's MovesOk returns what the reference's returns. No condition. -/
import Derived.Test.YtkbbgjoohffooaaMovesW
import Derived.Test.YtkbbgjoohffooaaToMoveSS
import Derived.Test.YtkbbgjoohffooaaOpens
namespace Go.Proofs.Ytkbbgjoohffooaa.PFnExactMovesOk
open Go.RowKit Go.Proofs.Ytkbbgjoohffooaa.Aid Go.Proofs.Ytkbbgjoohffooaa.RowsOf Go.Proofs.Ytkbbgjoohffooaa.MapP Go.Proofs.Ytkbbgjoohffooaa.MovesP Go.Proofs.Ytkbbgjoohffooaa.MovesW Go.Proofs.Ytkbbgjoohffooaa.ToMoveSS Go.Proofs.YtkbbgjoohffooaaW.PrintWords Go.Proofs.YtkbbgjoohffooaaW.PrintLast Go.Proofs.YtkbbgjoohffooaaW.PrintMore
set_option linter.unusedVariables false
set_option linter.unusedSimpArgs false
/-! ### the arguments -/
def good99 (x : S99) : Prop := (Lit.int .i64 x.f0).wf = true ∧ (Lit.int .i64 x.f1).wf = true ∧ (Lit.int .i64 x.f2).wf = true
set_option maxRecDepth 100000 in
theorem el_k99 {H : Type} {enc : TypeId × Value → H} {w : World} {base : Nat} {spare : Nat → Bool} {held : Bool} : ∀ m cs (x : DataW H × List MemPlace), DataW.trod enc Try.prog w base spare held m 99 cs = some x → ∃ p, k99.K w p cs ∧ good99 p := by
  intro m cs x h
  obtain ⟨ys, n', _, _, hl, hyl, hg⟩ := DataW.trod_struct Try.underlying99 h
  have c4 : Try.prog.cellsOf 99 = 4 := by kernel_rfl
  have c3 : Try.prog.cellsOf 3 = 1 := by kernel_rfl
  have cb : Try.prog.cellsOf 4 = 1 := by kernel_rfl
  rw [c4] at hl
  match cs, hl with
  | [a, b, c, d], _ =>
    match ys, hyl with
    | [y0, y1, y2, y3], _ =>
      have g0 := hg 0 _ rfl
      have g1 := hg 1 _ rfl
      have g2 := hg 2 _ rfl
      have g3 := hg 3 _ rfl
      simp only [c3, cb, List.drop, List.take, List.getElem?_cons_zero, List.getElem?_cons_succ] at g0 g1 g2 g3
      obtain ⟨n0, e0, _, w0⟩ := DataW.trod_int Try.underlying3 g0
      obtain ⟨n1, e1, _, w1⟩ := DataW.trod_int Try.underlying3 g1
      obtain ⟨n2, e2, _, w2⟩ := DataW.trod_int Try.underlying3 g2
      obtain ⟨b3, e3, _⟩ := DataW.trod_bool Try.underlying4 g3
      injection e0 with e0; injection e1 with e1; injection e2 with e2; injection e3 with e3
      subst e0 e1 e2 e3
      exact ⟨⟨n0, n1, n2, b3⟩, k99_mk w ⟨n0, n1, n2, b3⟩, w0, w1, w2⟩
/-! ### the sizes and the comparison -/
theorem evBind {α β : Type} {f : Nat → Option α} {g : Nat → α → Option β} {v : α} {u : β} (h : MovesP.Ev f v) (h2 : MovesP.Ev (fun k => g k v) u) : MovesP.Ev (fun k => (f k).bind (g k)) u := by
  obtain ⟨K, hK⟩ := h
  obtain ⟨K2, hK2⟩ := h2
  exact ⟨K + K2, fun k hk => by simp only []; rw [hK k (by omega)]; exact hK2 k (by omega)⟩
theorem rdL5 (L : List (List S99)) (i : Nat) (h : i < L.length) : rd_L5 L (i : Int) = L[i] := by
  unfold rd_L5
  rw [Int.toNat_natCast, List.getD_eq_getElem?_getD, List.getElem?_eq_getElem h]; rfl
def Fits (L : List (List S99)) (i : Nat) : Prop := ∀ j, i ≤ j → ∀ h : j < L.length, L[j].length ≤ 1048576
theorem sz_loop (L : List (List S99)) (hL : L.length ≤ 1048576) (hi : ∀ y ∈ L, y.length ≤ maxLen) : ∀ (d i : Nat) (s : Int), i + d = L.length → 0 ≤ s → s ≤ 1048576 → ∃ t, MovesP.Ev (fun k => laws_szMoveSS.l0 k L s i) t ∧ (t < 0 ∨ (0 ≤ t ∧ Fits L i)) := by
  have hm : maxLen = 9223372036854775807 := rfl
  intro d
  induction d with
  | zero =>
    intro i s e s0 s1
    refine ⟨s, MovesP.Ev.now fun k => ?_, .inr ⟨s0, fun j hj h => by omega⟩⟩
    simp only [laws_szMoveSS.l0]
    rw [if_neg (by omega)]
  | succ d ih =>
    intro i s e s0 s1
    have hil : i < L.length := by omega
    have hl := hi L[i] (List.getElem_mem hil)
    have sz : laws_szMoveS.f L[i] s = some (if s - (L[i].length : Int) < 0 then -1 else s - L[i].length) := by
      unfold laws_szMoveS.f
      rw [wid (by omega) (by omega)]
      split <;> rfl
    by_cases cs : s - (L[i].length : Int) < 0
    · refine ⟨-1, MovesP.Ev.now fun k => ?_, .inl (by decide)⟩
      simp only [laws_szMoveSS.l0]
      rw [if_pos (by omega), if_pos (by omega), rdL5 L i hil, sz, if_pos cs]; rfl
    · obtain ⟨t, ht, hr⟩ := ih (i + 1) (s - L[i].length) (by omega) (by omega) (by omega)
      refine ⟨t, MovesP.Ev.step ht fun k => ?_, ?_⟩
      · simp only [laws_szMoveSS.l0]
        rw [if_pos (by omega), if_pos (by omega), rdL5 L i hil, sz, if_neg cs]
        simp only [Option.bind_some]
        rw [if_neg cs, wid (x := (i : Int) + 1) (by omega) (by omega)]; rfl
      · rcases hr with hr | ⟨h0, hf⟩
        · exact .inl hr
        · refine .inr ⟨h0, fun j hj h => ?_⟩
          by_cases ej : j = i
          · subst ej; omega
          · exact hf j (by omega) h
theorem sz_ev (L : List (List S99)) (hl : L.length ≤ maxLen) (hi : ∀ y ∈ L, y.length ≤ maxLen) : ∃ t, MovesP.Ev (fun k => laws_szMoveSS.f k L 1048576) t ∧ (t < 0 ∨ (0 ≤ t ∧ L.length ≤ 1048576 ∧ ∀ x ∈ L, x.length ≤ 1048576)) := by
  have hm : maxLen = 9223372036854775807 := rfl
  by_cases c : (1048576 : Int) - L.length < 0
  · refine ⟨-1, ⟨0, fun k _ => ?_⟩, .inl (by decide)⟩
    simp only [laws_szMoveSS.f]
    rw [wid (by omega) (by omega), if_pos c]
  · obtain ⟨t, ⟨K, hK⟩, hr⟩ := sz_loop L (by omega) hi L.length 0 (1048576 - L.length) (by omega) (by omega) (by omega)
    refine ⟨t, ⟨K, fun k hk => ?_⟩, ?_⟩
    · simp only [laws_szMoveSS.f]
      rw [wid (by omega) (by omega), if_neg c]
      exact hK k hk
    · rcases hr with hr | ⟨h0, hf⟩
      · exact .inl hr
      · refine .inr ⟨h0, by omega, fun x hx => ?_⟩
        obtain ⟨j, hj, rfl⟩ := List.mem_iff_getElem.1 hx
        exact hf j (by omega) hj
theorem eqS_loop (l : List S69) (hl : l.length ≤ 1048576) : ∀ (d i : Nat), i + d = l.length → MovesP.Ev (fun k => laws_eqMoveS.l0 k l l i) true := by
  intro d
  induction d with
  | zero =>
    intro i e
    refine MovesP.Ev.now fun k => ?_
    simp only [laws_eqMoveS.l0]
    rw [if_neg (by omega)]
  | succ d ih =>
    intro i e
    refine MovesP.Ev.step (ih (i + 1) (by omega)) fun k => ?_
    simp only [laws_eqMoveS.l0, laws_eqMove.f]
    rw [if_pos (by omega), if_pos (by omega), if_pos (by omega), wid (x := (i : Int) + 1) (by omega) (by omega)]
    simp
theorem eqS_ev (l : List S69) (hl : l.length ≤ 1048576) : MovesP.Ev (fun k => laws_eqMoveS.f k l l) true := by
  obtain ⟨K, hK⟩ := eqS_loop l hl l.length 0 (by omega)
  refine ⟨K, fun k hk => ?_⟩
  simp only [laws_eqMoveS.f]
  rw [if_pos trivial]
  exact hK k hk
theorem eqSS_loop (L : List (List S69)) (hL : L.length ≤ 1048576) (hi : ∀ x ∈ L, x.length ≤ 1048576) : ∀ (d i : Nat), i + d = L.length → MovesP.Ev (fun k => laws_eqMoveSS.l0 k L L i) true := by
  intro d
  induction d with
  | zero =>
    intro i e
    refine MovesP.Ev.now fun k => ?_
    simp only [laws_eqMoveSS.l0]
    rw [if_neg (by omega)]
  | succ d ih =>
    intro i e
    have hil : i < L.length := by omega
    have h1 := eqS_ev L[i] (hi _ (List.getElem_mem hil))
    refine MovesP.Ev.step (evBind h1 (g := fun k t => if t = true then laws_eqMoveSS.l0 k L L ((i + 1 : Nat) : Int) else some false) (u := true) ?_) fun k => ?_
    · obtain ⟨K, hK⟩ := ih (i + 1) (by omega)
      exact ⟨K, fun k hk => by simp only []; rw [if_pos trivial]; exact hK k hk⟩
    · simp only [laws_eqMoveSS.l0]
      rw [if_pos (by omega), if_pos (by omega), if_pos (by omega), rdL L i hil, wid (x := (i : Int) + 1) (by omega) (by omega)]; rfl
theorem eqSS_ev (L : List (List S69)) (hL : L.length ≤ 1048576) (hi : ∀ x ∈ L, x.length ≤ 1048576) : MovesP.Ev (fun k => laws_eqMoveSS.f k L L) true := by
  obtain ⟨K, hK⟩ := eqSS_loop L hL hi L.length 0 (by omega)
  refine ⟨K, fun k hk => ?_⟩
  simp only [laws_eqMoveSS.f]
  rw [if_pos trivial]
  exact hK k hk
/-! ### the law -/
set_option maxRecDepth 100000 in
set_option maxHeartbeats 1000000 in
theorem law_walk (A0 : Option Addr) (c0 : Nat) (l0 : List (List S99)) (n c : Int) (w : World) (hr0 : Kd.C (Kd.slice 99 k99) w A0 l0.length l0) (hc0 : l0.length ≤ c0) (hm0 : l0.length ≤ maxLen) (hg0 : ∀ y ∈ l0, y.length ≤ maxLen ∧ ∀ z ∈ y, good99 z) :
    Calls Try.prog 7 #[.slice A0 l0.length c0, .int .i64 n, .int .i64 c] w fun e w' => e = .returned (.bool true) ∧ Below w.heap.size w w' := by
  obtain ⟨t, ⟨K, hK⟩, ht⟩ := sz_ev l0 hm0 (fun y hy => (hg0 y hy).1)
  have HSZ := laws_szMoveSS.calls K A0 c0 l0 1048576 t w hr0 hc0 (hK K (Nat.le_refl _))
  rcases ht with ht | ⟨ht, hl, hi⟩
  · have d1 : decide (t < 0) = true := decide_eq_true ht
    clear hr0 hg0 hK hm0
    go_enter Try.func7, Try.ntmps7
    go_wp2_with fail
    refine HSZ.mono ?_
    rintro e w' ⟨rfl, ⟨nd, rfl⟩⟩
    go_wp2_with fail
    go_ret
    exact ⟨rfl, pw_below_drewN (Below.refl _ _) nd⟩
  · have d1 : decide (t < 0) = false := decide_eq_false (by omega)
    obtain ⟨L, hL⟩ : ∃ L, L = l0.map (·.map cv) := ⟨_, rfl⟩
    have hLl : L.length = l0.length := by rw [hL, List.length_map]
    have hLi : ∀ x ∈ L, x.length ≤ 1048576 := by
      intro x hx
      rw [hL, List.mem_map] at hx
      obtain ⟨y, hy, rfl⟩ := hx
      rw [List.length_map]; exact hi y hy
    have hLw : ∀ x ∈ L, ∀ m ∈ x, wfP (keyM m) := by
      intro x hx m hm
      rw [hL, List.mem_map] at hx
      obtain ⟨y, hy, rfl⟩ := hx
      rw [List.mem_map] at hm
      obtain ⟨z, hz, rfl⟩ := hm
      exact (((hg0 y hy).2 z hz).2 : _)
    have HT : ∀ W, Below w.heap.size w W → Calls Try.prog 34 #[.slice A0 l0.length c0] W fun e w' => ∃ A cc, e = .returned (.slice A L.length cc) ∧ L.length ≤ cc ∧ Kd.C (Kd.slice 69 k69) w' A L.length L ∧ Below W.heap.size W w' := by
      intro W hb
      refine (toMoveSS_calls A0 c0 l0 W (Kd.C_below hr0 hb) hc0 hl hi).mono ?_
      rintro e w' ⟨g, vs, rfl, hG, _, hB⟩
      rw [← hL] at hG
      exact ⟨some ⟨g, 0, none⟩, L.length, by rw [hLl], Nat.le_refl _, hG.reads (by omega), hB⟩
    obtain ⟨K1, hK1⟩ := spec_ev L n c (by omega) hLi
    have HSP := fun A cc W h hc => spec_MovesOk.calls K1 A cc L n c (fullB L n c) W h hc (hK1 K1 (Nat.le_refl _))
    have HIM := fun A cc W h hc => impl_calls A cc L n c W h hc (by omega) hLi hLw
    obtain ⟨K2, hK2⟩ := eqSS_ev L (by omega) hLi
    have HEQ := fun A cc B dd W h hc h2 hc2 => laws_eqMoveSS.calls K2 A cc L B dd L true W h hc h2 hc2 (hK2 K2 (Nat.le_refl _))
    generalize fullB L n c = RES at HSP HIM
    clear hK hK1 hK2 hLw hLi hLl hL hr0 hg0 hm0 hl hi
    have HH := Aside0.mk (And.intro HT (And.intro HSP (And.intro HIM HEQ)))
    clear HT HSP HIM HEQ
    go_enter Try.func7, Try.ntmps7
    go_wp2_with fail
    refine HSZ.mono ?_
    rintro e w1 ⟨rfl, ⟨nd, rfl⟩⟩
    clear HSZ
    have HB := Aside0.mk (pw_below_drewN (Below.refl w.heap.size w) nd)
    go_wp2_with fail
    refine (HH.out.1 _ HB.out).mono ?_
    rintro e w2 ⟨A1, k1, rfl, hc1, hC1, hb⟩
    have HB := Aside0.mk (below_step HB.out hb)
    have HC1 := Aside0.mk hC1
    clear hb hC1
    go_wp2_with fail
    refine (HH.out.2.1 _ _ _ HC1.out hc1).mono ?_
    rintro e w3 ⟨rfl, hb⟩
    have HB := Aside0.mk (below_step HB.out hb)
    clear hb HC1 hc1
    go_wp2_with fail
    refine (HH.out.1 _ HB.out).mono ?_
    rintro e w4 ⟨A2, k2, rfl, hc2, hC2, hb⟩
    have HB := Aside0.mk (below_step HB.out hb)
    have HC2 := Aside0.mk hC2
    clear hb hC2
    go_wp2_with fail
    refine (HH.out.2.2.1 _ _ _ HC2.out hc2).mono ?_
    rintro e w5 ⟨rfl, hb⟩
    have HB := Aside0.mk (below_step HB.out hb)
    have HC2 := Aside0.mk (Kd.C_below HC2.out hb)
    clear hb
    have d2 : (RES != RES) = false := by simp
    go_wp2_with fail
    refine (HH.out.1 _ HB.out).mono ?_
    rintro e w6 ⟨A3, k3, rfl, hc3, hC3, hb⟩
    have HB := Aside0.mk (below_step HB.out hb)
    have HC2 := Aside0.mk (Kd.C_below HC2.out hb)
    have HC3 := Aside0.mk hC3
    clear hb hC3
    go_wp2_with fail
    refine (HH.out.2.2.2 _ _ _ _ _ HC2.out hc2 HC3.out hc3).mono ?_
    rintro e w7 ⟨rfl, hb⟩
    have HB := Aside0.mk (below_step HB.out hb)
    clear hb
    go_wp2_with fail
    go_ret
    exact ⟨rfl, HB.out⟩
theorem laws_FnExactMovesOk.calls (A0 : Option Addr) (c0 : Nat) (l0 : List (List S99)) (a1 : Int) (a2 : Int) (r : Bool) (w : World) (hr0 : Kd.C (Kd.slice 99 k99) w A0 l0.length l0) (hc0 : l0.length ≤ c0) (h : (l0.length ≤ maxLen ∧ ∀ y ∈ l0, y.length ≤ maxLen ∧ ∀ z ∈ y, good99 z) ∧ true = r) :
    Calls Try.prog 7 #[.slice A0 l0.length c0, .int .i64 a1, .int .i64 a2] w fun e w' => e = .returned (.bool r) ∧ Below w.heap.size w w' := by
  obtain ⟨⟨h1, h2⟩, h⟩ := h
  subst h
  exact law_walk A0 c0 l0 a1 a2 w hr0 hc0 h1 h2
end Go.Proofs.Ytkbbgjoohffooaa.PFnExactMovesOk
namespace Go.Proofs.Ytkbbgjoohffooaa.Pure
open Go.Proofs.Ytkbbgjoohffooaa.PFnExactMovesOk in
set_option linter.unusedVariables false in
theorem FnExactMovesOk (l0 : List (List S99)) (a1 a2 : Int) (h0 : l0.length ≤ maxLen) (g0 : ∀ p ∈ l0, p.length ≤ maxLen ∧ ∀ y ∈ p, good99 y) (_ : (Lit.int .i64 a1).wf = true) (_ : (Lit.int .i64 a2).wf = true) :
    (l0.length ≤ maxLen ∧ ∀ y ∈ l0, y.length ≤ maxLen ∧ ∀ z ∈ y, good99 z) ∧ true = true := ⟨⟨h0, g0⟩, rfl⟩
end Go.Proofs.Ytkbbgjoohffooaa.Pure
