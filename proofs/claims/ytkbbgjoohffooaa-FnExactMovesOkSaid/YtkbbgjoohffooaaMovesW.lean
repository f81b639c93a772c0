/- impl.MovesOk, walked: the map of a round as a set. No condition. -/
import Derived.Test.YtkbbgjoohffooaaMovesP
import Derived.Test.YtkbbgjoohffooaaMoveT
import Derived.Test.YtkbbgjoohffooaaMapP
import Derived.Test.YtkbbgjoohffooaaRowsOf
import Derived.Deep.RegionWith
import Derived.RegionTactic
import Derived.BigRegion
import Derived.ChangeAlike
namespace Go.Proofs.Ytkbbgjoohffooaa.MovesW
open Go.RowKit Go.Proofs.Ytkbbgjoohffooaa.Aid Go.Proofs.Ytkbbgjoohffooaa.RowsOf Go.Proofs.Ytkbbgjoohffooaa.MapP Go.Proofs.Ytkbbgjoohffooaa.MovesP Go.Proofs.Ytkbbgjoohffooaa.PFnExactMovesOk Go.Proofs.YtkbbgjoohffooaaW.PrintWords Go.Proofs.YtkbbgjoohffooaaW.PrintLast Go.Proofs.YtkbbgjoohffooaaW.PrintMore
set_option linter.unusedVariables false
set_option linter.unusedSimpArgs false
theorem iIn (a b c : Int) : impl_within.f a b c = some (inB a b c) := by unfold impl_within.f; exact in_body a b c
theorem within_calls (a b c : Int) (w : World) : Calls Try.prog 49 #[.int .i64 a, .int .i64 b, .int .i64 c] w fun e w' => e = .returned (.bool (inB a b c)) ∧ Drawn0 w w' := impl_within.calls a b c _ w (iIn a b c)
theorem op_mkmap (ρ : Operand → Value) (o : Oper) (t : Nat) (ho : o.op = .makeMap t none) (w : World) : (execOp ρ o).run Try.prog w = .ok (.value (.map (some w.heap.size))) (w.alloc (.map #[] 0)) := by
  simp [execOp, ho]
  rfl
theorem op_look (ρ : Operand → Value) (o : Oper) (t : Nat) (x y : Operand) (ho : o.op = .lookup t x y false) (b : Nat) (key v : Value) (hx : ρ x = .map (some b)) (hy : ρ y = key) (w : World) (h : (Instr.lookup t (.map (some b)) key false).run Try.prog w = .ok v w) : (execOp ρ o).run Try.prog w = .ok (.value v) w := by
  simp [execOp, ho, hx, hy, h]
set_option maxRecDepth 100000 in
set_option maxHeartbeats 4000000 in
theorem impl_calls (A0 : Option Addr) (c0 : Nat) (L : List (List S69)) (n c : Int) (w : World) (hr0 : Kd.C (Kd.slice 69 k69) w A0 L.length L) (hc0 : L.length ≤ c0) (hL : L.length ≤ 1048576) (hrow : ∀ x ∈ L, x.length ≤ 1048576) (hwf : ∀ x ∈ L, ∀ m ∈ x, wfP (keyM m)) :
    Calls Try.prog 35 #[.slice A0 L.length c0, .int .i64 n, .int .i64 c] w fun e w' => e = .returned (.bool (fullB L n c)) ∧ Below w.heap.size w w' := by
  have HR := Aside0.mk hr0
  have HO := Aside0.mk (And.intro hrow hwf)
  obtain ⟨N, hN⟩ : ∃ N, N = L.length := ⟨_, rfl⟩
  have HN := Aside0.mk hN
  rw [← hN] at hc0 hL HR ⊢
  clear hr0 hrow hwf
  obtain ⟨RES, hR⟩ : ∃ RES, RES = fullB L n c := ⟨_, rfl⟩
  rw [← hR]
  unfold fullB at hR
  rw [← hN] at hR
  clear hN
  have W := within_calls
  cases b0 : inB n 1 64 with
  | false =>
    rw [b0] at hR
    simp only [Bool.false_and] at hR
    subst hR
    have W0 := fun w => b0 ▸ W n 1 64 w
    clear b0 W
    go_enter Try.func35, Try.ntmps35
    go_wp2_with fail
    refine (W0 _).mono ?_
    rintro e w' ⟨rfl, ⟨nd, rfl⟩⟩
    go_wp2_with fail
    go_ret
    exact ⟨rfl, pw_below_drewN (Below.refl _ _) _⟩
  | true =>
    have W0 := fun w => b0 ▸ W n 1 64 w
    cases b1 : inB c 1 64 with
    | false =>
      rw [b0, b1] at hR
      simp only [Bool.true_and, Bool.false_and] at hR
      subst hR
      have W1 := fun w => b1 ▸ W c 1 64 w
      clear b0 b1 W
      go_enter Try.func35, Try.ntmps35
      go_wp2_with fail
      refine (W0 _).mono ?_
      rintro e w' ⟨rfl, ⟨nd, rfl⟩⟩
      go_wp2_with fail
      refine (W1 _).mono ?_
      rintro e w' ⟨rfl, ⟨nd, rfl⟩⟩
      go_wp2_with fail
      go_ret
      exact ⟨rfl, by repeat (first | exact Below.refl _ _ | apply pw_below_drewN)⟩
    | true =>
      have W1 := fun w => b1 ▸ W c 1 64 w
      have hn := (inB_iff _ _ _).1 b0
      have hc := (inB_iff _ _ _).1 b1
      rw [b0, b1] at hR
      simp only [Bool.true_and] at hR
      clear b0 b1
      by_cases c3 : (N : Int) ≤ 300
      · rw [decide_eq_true c3, Bool.true_and] at hR
        have d1 : decide ((N : Int) > 300) = false := decide_eq_false (by omega)
        have HRES := Aside0.mk hR
        clear hR
        go_enter Try.func35, Try.ntmps35
        go_wp2_with fail
        refine (W0 _).mono ?_
        rintro e w' ⟨rfl, ⟨nd, rfl⟩⟩
        go_wp2_with fail
        refine (W1 _).mono ?_
        rintro e w' ⟨rfl, ⟨nd2, rfl⟩⟩
        go_wp2_with fail
        have HB0 := Aside0.mk (pw_below_drewN (Below.refl w.heap.size w) (nd + nd2))
        go_loopg [7, 28] N (fun kq v7 v28 wr => ∃ (r : Nat) (s : Int), v28 = .int .i64 r ∧ v7 = .int .i64 s ∧ Aside0 (r + kq = N ∧ 0 ≤ s ∧ s ≤ 5000 ∧ RES = movesB n c s (L.drop r)) ∧ Aside0 (Below w.heap.size w wr))
        case atStart => exact ⟨0, 0, rfl, rfl, ⟨by omega, by decide, by decide, HRES.out⟩, HB0⟩
        case round =>
          clear HB0 HRES
          obtain ⟨r, s, rfl, rfl, HA, HB⟩ := hrel
          by_cases hr : r < N
          · have e1 : decide ((r : Int) < (N : Int)) = true := decide_eq_true (by omega)
            obtain ⟨ad, A1, c1, x, ea, hx, hcell, hlc, hC⟩ := at_rows HR.out r hr
            cases ea
            have hcell := pw_cell_below HB.out hcell
            have hrl : r < L.length := by rw [← HN.out]; exact hr
            have ex : L[r] = x := by rw [List.getElem?_eq_getElem hrl] at hx; exact Option.some.inj hx
            have hms := moves_step n c s L r hrl
            rw [ex, ← HA.out.2.2.2] at hms
            have hxm : x ∈ L := ex ▸ List.getElem_mem hrl
            have hxl := HO.out.1 x hxm
            have HXW := Aside0.mk (HO.out.2 x hxm)
            have hs0 := HA.out.2.1
            have hs1 := HA.out.2.2.1
            obtain ⟨M, hM⟩ : ∃ M, M = x.length := ⟨_, rfl⟩
            rw [← hM] at hcell hlc hC hxl hms
            have HM := Aside0.mk hM
            have HC := Aside0.mk hC
            clear hC hx ex hxm hM
            by_cases cs : s + (M : Int) ≤ 5000
            · rw [decide_eq_true cs, Bool.true_and] at hms
              have e2 : decide (s + (M : Int) > 5000) = false := decide_eq_false (by omega)
              have HMS := Aside0.mk hms
              clear hms
              go_wp2_with ((with_reducible refine gate_dst (N := 38) rfl ?_); refine Kd.event_run rfl (op_mkmap _ _ _ rfl _) ?_)
              have HS := Aside0.mk (set_new wr)
              have HB2 := Aside0.mk (below_alloc HB.out (.map #[] 0))
              obtain ⟨b, hb⟩ : ∃ b, b = wr.heap.size := ⟨_, rfl⟩
              have HBB := Aside0.mk (show w.heap.size ≤ b by rw [hb]; exact HB.out.size)
              rw [← hb] at HS ⊢
              clear HB hb
              obtain ⟨go, hgo⟩ : ∃ g, g = gk := ⟨_, rfl⟩
              have HGO := Aside0.mk hgo
              clear hgo
              go_loopg [41] M (fun kq v41 wi => ∃ (k : Nat), v41 = .int .i64 k ∧ Aside0 (k + kq = M ∧ RES = (rowB n c (seenM x k) (x.drop k) && movesB n c (s + M) (L.drop (r + 1)))) ∧ Aside0 (IsSet wi b (seenM x k)) ∧ Aside0 (Below w.heap.size w wi))
              case atStart => exact ⟨0, rfl, ⟨by omega, HMS.out⟩, HS, HB2⟩
              case round =>
                clear HS HB2 HMS
                obtain ⟨k, rfl, HK, HS, HB⟩ := hrel
                by_cases hk : k < M
                · have e3 : decide ((k : Int) < (M : Int)) = true := decide_eq_true (by omega)
                  obtain ⟨ad2, ea2, q0, q1, q2, q3⟩ := at_T69 (Kd.C_below HC.out HB.out) (k : Int) (by omega) (by omega)
                  have hkl : k < x.length := by rw [← HM.out]; exact hk
                  have hrs := row_step n c x k hkl
                  have hmw := HXW.out x[k] (List.getElem_mem hkl)
                  have hkm : keyM x[k] = (x[k].f1, x[k].f2) := rfl
                  have hss := seen_succ x k hkl
                  rw [rdT x k hkl] at q0 q1 q2 q3
                  have hmb : moveB n c x[k] = (inB x[k].f0 0 (n - 1) && inB x[k].f1 0 (n - 1) && !(x[k].f0 == x[k].f1) && inB x[k].f2 0 (c - 1)) := rfl
                  obtain ⟨m, hm⟩ : ∃ m, m = x[k] := ⟨_, rfl⟩
                  rw [← hm] at hrs hmw hkm hss q0 q1 q2 q3 hmb
                  clear hm
                  obtain ⟨f0, f1, f2, f3⟩ := m
                  simp only at hkm q0 q1 q2 q3 hmb
                  rw [Int.toNat_natCast] at q0 q1 q2 q3
                  subst ea2
                  have HRS := Aside0.mk (And.intro hrs (And.intro hmb (And.intro hkm (And.intro hss hmw))))
                  clear hrs hmb hkm hss hmw hkl
                  have wn : wrap64 (n - 1) = n - 1 := wid (by omega) (by omega)
                  have wc : wrap64 (c - 1) = c - 1 := wid (by omega) (by omega)
                  go_wp2_with fail
                  cases a0 : inB f0 0 (n - 1) with
                  | false =>
                    have HE := Aside0.mk (show RES = false by have h := HK.out.2; rw [HRS.out.1, HRS.out.2.1, a0] at h; simpa using h)
                    have X0 := fun w => a0 ▸ W f0 0 (n - 1) w
                    refine (X0 _).mono ?_
                    rintro e w' ⟨rfl, ⟨_, rfl⟩⟩
                    go_wp2_with fail
                    go_ret
                    exact ⟨by rw [HE.out]; rfl, by repeat (first | exact below_alloc HB.out _ | apply pw_below_drewN)⟩
                  | true =>
                    have X0 := fun w => a0 ▸ W f0 0 (n - 1) w
                    refine (X0 _).mono ?_
                    rintro e w' ⟨rfl, ⟨_, rfl⟩⟩
                    go_wp2_with fail
                    cases a1 : inB f1 0 (n - 1) with
                    | false =>
                      have HE := Aside0.mk (show RES = false by have h := HK.out.2; rw [HRS.out.1, HRS.out.2.1, a0, a1] at h; simpa using h)
                      have X1 := fun w => a1 ▸ W f1 0 (n - 1) w
                      refine (X1 _).mono ?_
                      rintro e w' ⟨rfl, ⟨_, rfl⟩⟩
                      go_wp2_with fail
                      go_ret
                      exact ⟨by rw [HE.out]; rfl, by repeat (first | exact below_alloc HB.out _ | apply pw_below_drewN)⟩
                    | true =>
                      have X1 := fun w => a1 ▸ W f1 0 (n - 1) w
                      refine (X1 _).mono ?_
                      rintro e w' ⟨rfl, ⟨_, rfl⟩⟩
                      cases a2 : (f0 == f1) with
                      | true =>
                        have HE := Aside0.mk (show RES = false by have h := HK.out.2; rw [HRS.out.1, HRS.out.2.1, a0, a1, a2] at h; simpa using h)
                        go_wp2_with fail
                        go_ret
                        exact ⟨by rw [HE.out]; rfl, by repeat (first | exact below_alloc HB.out _ | apply pw_below_drewN)⟩
                      | false =>
                        go_wp2_with fail
                        cases a3 : inB f2 0 (c - 1) with
                        | false =>
                          have HE := Aside0.mk (show RES = false by have h := HK.out.2; rw [HRS.out.1, HRS.out.2.1, a0, a1, a2, a3] at h; simpa using h)
                          have X3 := fun w => a3 ▸ W f2 0 (c - 1) w
                          refine (X3 _).mono ?_
                          rintro e w' ⟨rfl, ⟨_, rfl⟩⟩
                          go_wp2_with fail
                          go_ret
                          exact ⟨by rw [HE.out]; rfl, by repeat (first | exact below_alloc HB.out _ | apply pw_below_drewN)⟩
                        | true =>
                          have X3 := fun w => a3 ▸ W f2 0 (c - 1) w
                          have hmo : RES = (!(decide ((f1, f2) ∈ seenM x k)) && rowB n c (seenM x (k + 1)) (x.drop (k + 1)) && movesB n c (s + M) (L.drop (r + 1))) := by
                            have h := HK.out.2
                            rw [HRS.out.1, HRS.out.2.1, a0, a1, a2, a3, HRS.out.2.2.1] at h
                            simpa using h
                          refine (X3 _).mono ?_
                          rintro e w' ⟨rfl, ⟨_, rfl⟩⟩
                          have hsw : ∀ q ∈ seenM x k, wfP q := by
                            intro q hq
                            obtain ⟨t, _, ht, rfl⟩ := (seen_mem _ _ _).1 hq
                            exact HXW.out _ (List.getElem_mem ht)
                          have hpw : wfP (f1, f2) := HRS.out.2.2.1 ▸ HRS.out.2.2.2.2
                          have hbl : b < wr.heap.size := (Array.getElem?_eq_some_iff.1 HS.out).1
                          clear X0 X1 X3 a0 a1 a3
                          by_cases cm : (f1, f2) ∈ seenM x k
                          · rw [decide_eq_true cm] at hmo
                            have HE := Aside0.mk (show RES = false by simpa using hmo)
                            have LK : ∀ (ob : Obj) (j : Nat), (Instr.lookup 84 (.map (some b)) (.agg #[.int .i64 f1, .int .i64 f2]) false).run Try.prog ((wr.alloc ob).drewN j) = .ok (.int .i64 1) ((wr.alloc ob).drewN j) := fun ob j => look_in (p := (f1, f2)) mk84 (set_other HS.out (Below.heap_alloc wr ob b hbl)) hsw cm
                            have HLK := Aside0.mk LK
                            clear hmo LK
                            go_wp2_with fail
                            rw [HLK.out]
                            go_wp2_with fail
                            go_ret
                            exact ⟨by rw [HE.out]; rfl, by repeat (first | exact below_alloc HB.out _ | apply pw_below_drewN)⟩
                          · rw [decide_eq_false cm] at hmo
                            have HMO := Aside0.mk hmo
                            have LK : ∀ (ob : Obj) (j : Nat), (Instr.lookup 84 (.map (some b)) (.agg #[.int .i64 f1, .int .i64 f2]) false).run Try.prog ((wr.alloc ob).drewN j) = .ok (.int .i64 0) ((wr.alloc ob).drewN j) := fun ob j => look_out (p := (f1, f2)) mk84 (set_other HS.out (Below.heap_alloc wr ob b hbl)) hsw hpw cm
                            have HLK := Aside0.mk LK
                            have HCM := Aside0.mk cm
                            clear hmo LK cm
                            go_wp2_with fail
                            rw [HLK.out]
                            go_wp2_with fail
                            have q0 : (wr.alloc (.cells #[.int .i64 f0, .int .i64 f1, .int .i64 f2, .bool f3] 69)).cell? ⟨wr.heap.size, 1, none⟩ = some (.int .i64 f1) := (blk_cell (blk_new wr (.cells #[.int .i64 f0, .int .i64 f1, .int .i64 f2, .bool f3] 69 (0, 0))) 1).trans rfl
                            have q1 : (wr.alloc (.cells #[.int .i64 f0, .int .i64 f1, .int .i64 f2, .bool f3] 69)).cell? ⟨wr.heap.size, 2, none⟩ = some (.int .i64 f2) := (blk_cell (blk_new wr (.cells #[.int .i64 f0, .int .i64 f1, .int .i64 f2, .bool f3] 69 (0, 0))) 2).trans rfl
                            have LK0 := fun j => HLK.out (.cells #[.int .i64 f0, .int .i64 f1, .int .i64 f2, .bool f3] 69 (0, 0)) j
                            have HS1 := fun j => (set_other (w' := (wr.alloc (.cells #[.int .i64 f0, .int .i64 f1, .int .i64 f2, .bool f3] 69 (0, 0))).drewN j) HS.out (Below.heap_alloc wr _ b hbl))
                            obtain ⟨H, hH⟩ : ∃ H, H = half (wr.alloc (.cells #[.int .i64 f0, .int .i64 f1, .int .i64 f2, .bool f3] 69 (0, 0))) b (seenM x k) (f1, f2) := ⟨_, rfl⟩
                            obtain ⟨F, hF⟩ : ∃ F, F = full (wr.alloc (.cells #[.int .i64 f0, .int .i64 f1, .int .i64 f2, .bool f3] 69 (0, 0))) b (seenM x k) (f1, f2) := ⟨_, rfl⟩
                            have EN0 : ∀ j, (Instr.mapEntry 84 (.map (some b)) (.agg #[.int .i64 f1, .int .i64 f2])).run Try.prog ((wr.alloc (.cells #[.int .i64 f0, .int .i64 f1, .int .i64 f2, .bool f3] 69 (0, 0))).drewN j) = .ok (.tuple #[.int .i64 0, .int .i64 (seenM x k).length]) (H.drewN j) := fun j => by
                              rw [hH]; exact entry_out (p := (f1, f2)) mk84 (HS1 j) hsw hpw HCM.out
                            have LH0 : ∀ j, (Instr.lookup 84 (.map (some b)) (.agg #[.int .i64 f1, .int .i64 f2]) false).run Try.prog (H.drewN j) = .ok (.int .i64 0) (H.drewN j) := fun j => by
                              rw [hH]; exact look_half (p := (f1, f2)) mk84 (HS1 j) hsw hpw HCM.out
                            have ES0 : ∀ j, (Instr.entryStore 84 (.map (some b)) (.int .i64 (seenM x k).length) (.int .i64 1)).run Try.prog (H.drewN j) = .ok () (F.drewN j) := fun j => by
                              rw [hH, hF]; exact store_half (p := (f1, f2)) 84 (half_block (p := (f1, f2)) (HS1 j))
                            have HF := Aside0.mk (And.intro hH hF)
                            have HSZ := Aside0.mk (HS1 0)
                            obtain ⟨sl, hsl⟩ : ∃ sl, sl = (seenM x k).length := ⟨_, rfl⟩
                            rw [← hsl] at EN0 ES0
                            clear hH hF hsl HS1 hsw hpw
                            go_region
                            have HNS := Aside0.mk (show IsSet F b (seenM x (k + 1)) by
                              have h := full_set (p := (f1, f2)) HSZ.out
                              rw [HF.out.2, HRS.out.2.2.2.1, HRS.out.2.2.1]
                              exact h)
                            have HNB := Aside0.mk (show Below w.heap.size w F by
                              rw [HF.out.2]
                              exact (below_alloc HB.out _).trans (full_below (p := (f1, f2)) HSZ.out HBB.out))
                            have hmo := HMO.out
                            rw [Bool.not_false, Bool.true_and] at hmo
                            have HMO2 := Aside0.mk hmo
                            clear EN0 LH0 ES0 LK0 hmo
                            go_wp2_with fail
                            go_roundg (gk - 1)
                            case measure => have := HK.out; omega
                            case rel => exact ⟨k + 1, by go_num, ⟨by have := HK.out; omega, HMO2.out⟩, HNS, ⟨pw_below_drewN HNB.out _⟩⟩
                · have e3 : decide ((k : Int) < (M : Int)) = false := decide_eq_false (by omega)
                  have HE := Aside0.mk (show RES = movesB n c (s + M) (L.drop (r + 1)) by
                    have h := HK.out
                    rw [h.2, List.drop_eq_nil_of_le (by have := HM.out; omega)]; rfl)
                  go_wp2_with fail
                  go_roundg (go - 1)
                  case measure => have := HA.out; have := HGO.out; omega
                  case rel => exact ⟨r + 1, s + M, by go_num, by go_num, ⟨by have := HA.out; have := HGO.out; omega, by omega, by omega, HE.out⟩, HB⟩
            · rw [decide_eq_false cs, Bool.false_and] at hms
              have e2 : decide (s + (M : Int) > 5000) = true := decide_eq_true (by omega)
              have HMS := Aside0.mk hms
              clear hms
              go_wp2_with fail
              go_ret
              exact ⟨by rw [HMS.out]; rfl, HB.out⟩
          · have e1 : decide ((r : Int) < (N : Int)) = false := decide_eq_false (by omega)
            have HE := Aside0.mk (show RES = true by
              have h := HA.out
              rw [h.2.2.2, List.drop_eq_nil_of_le (by have := HN.out; omega)]; rfl)
            go_wp2_with fail
            go_ret
            exact ⟨by rw [HE.out]; rfl, HB.out⟩
      · rw [decide_eq_false c3, Bool.false_and] at hR
        subst hR
        have d1 : decide ((N : Int) > 300) = true := decide_eq_true (by omega)
        clear W
        go_enter Try.func35, Try.ntmps35
        go_wp2_with fail
        refine (W0 _).mono ?_
        rintro e w' ⟨rfl, ⟨nd, rfl⟩⟩
        go_wp2_with fail
        refine (W1 _).mono ?_
        rintro e w' ⟨rfl, ⟨nd2, rfl⟩⟩
        go_wp2_with fail
        go_ret
        exact ⟨rfl, by repeat (first | exact Below.refl _ _ | apply pw_below_drewN)⟩
end Go.Proofs.Ytkbbgjoohffooaa.MovesW
