/- impl.bytesOfTokens, walked: the bytes of all tokens; the pairs seen are a map. No condition. -/
import Derived.Test.YtkbbgjoohffooaaTextP
import Derived.Test.YtkbbgjoohffooaaTokT
import Derived.Test.YtkbbgjoohffooaaMapP
import Derived.Deep.RegionWith
import Derived.RegionTactic
import Derived.BigRegion
import Derived.ChangeAlike
namespace Go.Proofs.Ytkbbgjoohffooaa.TextW
open Go.RowKit Go.Proofs.Ytkbbgjoohffooaa.Aid Go.Proofs.Ytkbbgjoohffooaa.MapP Go.Proofs.Ytkbbgjoohffooaa.TextP Go.Proofs.Ytkbbgjoohffooaa.PFnExactTokenText Go.Proofs.YtkbbgjoohffooaaW.PrintWords Go.Proofs.YtkbbgjoohffooaaW.PrintLast Go.Proofs.YtkbbgjoohffooaaW.PrintMore
set_option linter.unusedVariables false
set_option linter.unusedSimpArgs false
/-- The texts of the single bytes. -/
def baseN (k : Nat) : List ByteArray := (List.range k).map (fun b : Nat => oneB (b : Int))
theorem baseN_succ (k : Nat) : baseN (k + 1) = baseN k ++ [oneB k] := by unfold baseN; rw [List.range_succ, List.map_append]; rfl
theorem baseN_length (k : Nat) : (baseN k).length = k := by simp [baseN]
theorem get_base (T : List ByteArray) (a : Int) (h0 : 0 ≤ a) : rdOf ByteArray.empty (baseN 256 ++ T) a = getB T a := by
  unfold rdOf getB
  obtain ⟨n, rfl⟩ := Int.eq_ofNat_of_zero_le h0
  rw [Int.toNat_natCast, List.getD_eq_getElem?_getD]
  by_cases c : n < 256
  · rw [if_pos (by omega), List.getElem?_append_left (by rw [baseN_length]; exact c)]
    unfold baseN
    rw [List.getElem?_map, List.getElem?_range c]; rfl
  · rw [if_neg (by omega), List.getElem?_append_right (by rw [baseN_length]; omega), baseN_length]
    unfold rdOf
    rw [List.getD_eq_getElem?_getD, show ((n : Int) - 256).toNat = n - 256 by omega]
theorem op_mkmap (ρ : Operand → Value) (o : Oper) (t : Nat) (ho : o.op = .makeMap t none) (w : World) : (execOp ρ o).run Try.prog w = .ok (.value (.map (some w.heap.size))) (w.alloc (.map #[] 0)) := by
  simp [execOp, ho]
  rfl
set_option maxRecDepth 100000 in
set_option maxHeartbeats 4000000 in
theorem impl_calls (A0 : Option Addr) (c0 : Nat) (l : List S77) (w : World) (hr0 : Kd.C k77 w A0 l.length l) (hc0 : l.length ≤ c0) (hL : l.length ≤ 1048576) (hwf : ∀ p ∈ l, wfP (keyP p)) :
    Calls Try.prog 57 #[.slice A0 l.length c0] w fun e w' => ∃ v, e = .returned (.tuple #[v, .bool (textsB l).2]) ∧ ((textsB l).2 = true → Kd.R Kd.string 9 w' w.heap.size (fun _ => True) v (baseN 256 ++ (textsB l).1)) ∧ Below w.heap.size w w' := by
  have HR := Aside0.mk hr0
  have HO := Aside0.mk hwf
  obtain ⟨N, hN⟩ : ∃ N, N = l.length := ⟨_, rfl⟩
  have HN := Aside0.mk hN
  obtain ⟨RES, hR⟩ : ∃ RES, RES = textsB l := ⟨_, rfl⟩
  rw [← hR]
  unfold textsB at hR
  rw [← hN] at hc0 hL HR hR ⊢
  clear hr0 hwf hN
  have HB := Aside0.mk (Below.refl w.heap.size w)
  by_cases c3 : N > 300
  · rw [if_pos c3] at hR
    subst hR
    have d1 : decide ((N : Int) > 300) = true := decide_eq_true (by omega)
    go_enter Try.func57, Try.ntmps57
    go_wp2_with fail
    go_ret2
    exact ⟨_, rfl, (fun h => by cases h), HB.out⟩
  · rw [if_neg c3] at hR
    have d1 : decide ((N : Int) > 300) = false := decide_eq_false (by omega)
    have HRES := Aside0.mk hR
    clear hR
    go_enter Try.func57, Try.ntmps57
    go_wp2_with (first | ((with_reducible refine gate_dst (N := 14) rfl ?_); refine Kd.R_lit Kd.string _ 9 ?hg (N := 14) ?hd (xs := ([] : List ByteArray)) (inner := []) (ok := fun _ => True) (okp := fun _ => True) ?hr ?hp (fun _ hk => hk) trivial (Below.refl _ _) (Nat.le_refl _) (by simp) ?_; (case hd => rfl); (case hg => rfl); (case hr => first | (go_simp; done) | (go_simp; rfl)); (case hp => exact (Reps.none _ _)); intro v1 w1 ho hb hg_ hnew_; clear hg_ hnew_; have HB1 := Aside0.mk (below_step HB.out hb); have HO1 := Aside0.mk ho; clear HB hb ho))
    have HO1 : Aside0 (Kd.R Kd.string 9 w1 w.heap.size (fun _ => True) v1 (baseN 0)) := Aside0.mk HO1.out
    go_loopg [4, 15] 256 (fun kq v4 v15 wr => ∃ (k : Nat), v15 = .int .i64 k ∧ Aside0 (k + kq = 256) ∧ Aside0 (Kd.R Kd.string 9 wr w.heap.size (fun _ => True) v4 (baseN k)) ∧ Aside0 (Below w.heap.size w wr))
    case atStart => exact ⟨0, rfl, ⟨rfl⟩, HO1, HB1⟩
    case round =>
      clear HO1 HB1
      obtain ⟨k, rfl, HK, HS, HB⟩ := hrel
      by_cases hk : k < 256
      · have e1 : decide ((k : Int) < 256) = true := decide_eq_true (by omega)
        obtain ⟨A4, c4, e4⟩ := Kd.R_slice HS.out
        rw [baseN_length] at e4
        subst e4
        have h1k := Aside0.mk (show oneB (k : Int) = strOfNums ([(k : Int)] : List Int) by unfold oneB; rw [Int.emod_eq_of_lt (by omega) (by omega)])
        go_wp2_with (first
          | ((with_reducible refine gate_dst (N := 21) rfl ?_); refine Kd.R_lit (Kd.int .u8) _ 5 ?hg (N := 21) ?hd (xs := ([(k : Int)] : List Int)) (inner := [.int .u8 (k : Int)]) (ok := fun _ => True) (okp := fun _ => True) ?hr ?hp (fun _ hk => hk) trivial (Below.refl _ _) (Nat.le_refl _) (by simp) ?_; (case hd => rfl); (case hg => rfl); (case hr => first | (go_simp; done) | (go_simp; rfl)); (case hp => exact (Reps.one (show Kd.M (Kd.int .u8) _ _ _ (k : Int) [.int .u8 (k : Int)] from rfl) (Reps.none _ _))); intro v102 w4 ho5 hb hg_ hnew_; clear hg_ hnew_; have HS2 := Aside0.mk (Kd.R_below HS.out hb); have HB2 := Aside0.mk (below_step HB.out hb); have hcv6 := own_string (P := Try.prog) Try.underlying96 Try.underlying5 Try.underlying9 (Kd.own_of_R ho5); rw [← h1k.out] at hcv6; clear hb ho5)
          | ((with_reducible refine gate_builtin (b := .append) (xs := #[.tmp 18, .tmp 23]) rfl ?_); at_builtin; refine Kd.R_append Kd.string (w0 := w) w.heap.size rfl (.tmp 18) (.tmp 23) 72 9 (.string ⟨#[]⟩) 16 rfl Try.underlying72 info9 rfl (by decide) (by omega) (.slice A4 k c4) (baseN k) (oneB k) [.string (oneB k)] (fun _ => True) (fun _ => False) rfl rfl ?aP (fun _ hk => hk.elim) ?aF ?aO ?aB ?aS ?aL ?_; (case aP => exact rfl); (case aB => exact HB2.out); (case aF => exact (fun _ _ => trivial)); (case aO => exact HS2.out); (case aS => exact HB2.out.size); (case aL => rw [baseN_length]; omega); intro v116 w37 ho hb hg hat; have HS3 := Aside0.mk ho; have HB3 := Aside0.mk hb; clear ho hb hg hat))
        go_roundg (gk - 1)
        case measure => have := HK.out; omega
        case rel => exact ⟨k + 1, by go_num, ⟨by have := HK.out; omega⟩, ⟨by rw [baseN_succ]; exact HS3.out⟩, HB3⟩
      · have e1 : decide ((k : Int) < 256) = false := decide_eq_false (by omega)
        have e256 : k = 256 := by have := HK.out; omega
        subst e256
        obtain ⟨b, hb⟩ : ∃ b, b = wr.heap.size := ⟨_, rfl⟩
        have HS1 : Aside0 (Kd.R Kd.string 9 wr w.heap.size (fun j => j ≠ b) _ (baseN 256)) := Aside0.mk (Kd.R_mono (Kd.R_bound HS.out) (fun j hj => by have := hj.2.2.1; omega))
        have HS2 := Aside0.mk (Kd.R_alloc HS1.out (.map #[] 0))
        have HM := Aside0.mk (set_new wr)
        have HB2 := Aside0.mk (below_alloc HB.out (.map #[] 0))
        have HBB := Aside0.mk (show w.heap.size ≤ b by rw [hb]; exact HB.out.size)
        go_wp2_with ((with_reducible refine gate_dst (N := 26) rfl ?_); refine Kd.event_run rfl (op_mkmap _ _ _ rfl _) ?_)
        rw [← hb] at HM ⊢
        clear hb HS HB HS1
        go_loopg [4, 29] N (fun kq v4 v29 wi => ∃ (k : Nat) (T : List ByteArray), v29 = .int .i64 k ∧ Aside0 (k + kq = N ∧ T.length = k ∧ Short T ∧ RES = runB (seenP l k) T (l.drop k)) ∧ Aside0 (IsSet wi b (seenP l k)) ∧ Aside0 (Kd.R Kd.string 9 wi w.heap.size (fun j => j ≠ b) v4 (baseN 256 ++ T)) ∧ Aside0 (Below w.heap.size w wi))
        case atStart => exact ⟨0, [], rfl, ⟨by omega, rfl, (fun t ht => by simp at ht), HRES.out⟩, HM, ⟨by rw [List.append_nil]; exact HS2.out⟩, HB2⟩
        case round =>
          clear HM HS2 HB2 HRES
          obtain ⟨k, T, rfl, HK, HM, HS, HB⟩ := hrel
          obtain ⟨A4, c4, e4⟩ := Kd.R_slice HS.out
          have elen : (baseN 256 ++ T).length = 256 + k := by rw [List.length_append, baseN_length, HK.out.2.1]
          rw [elen] at e4
          subst e4
          by_cases hk2 : k < N
          · have e3 : decide ((k : Int) < (N : Int)) = true := decide_eq_true (by omega)
            obtain ⟨ad2, ea2, q0, q1⟩ := at_T77 (Kd.C_below HR.out HB.out) (k : Int) (by omega) (by omega)
            have hkl : k < l.length := by rw [← HN.out]; exact hk2
            have hrs := run_step l T k hkl
            have hpw := HO.out l[k] (List.getElem_mem hkl)
            have hss := seen_succ l k hkl
            rw [rdT l k hkl] at q0 q1
            rw [HK.out.2.1, ← HK.out.2.2.2] at hrs
            have hmb : pairB k l[k] = (inB l[k].f0 0 (255 + k) && inB l[k].f1 0 (255 + k)) := rfl
            have hkm : keyP l[k] = (l[k].f0, l[k].f1) := rfl
            have hjb : joinB T l[k] = getB T l[k].f0 ++ getB T l[k].f1 := rfl
            rw [hkm] at hrs hpw hss
            rw [hmb, hjb] at hrs
            obtain ⟨f0, hf0⟩ : ∃ f0, f0 = l[k].f0 := ⟨_, rfl⟩
            obtain ⟨f1, hf1⟩ : ∃ f1, f1 = l[k].f1 := ⟨_, rfl⟩
            rw [← hf0, ← hf1] at hrs hpw hss
            rw [← hf0] at q0
            rw [← hf1] at q1
            rw [Int.toNat_natCast] at q0 q1
            subst ea2
            have HRS := Aside0.mk (And.intro hrs (And.intro hss hpw))
            clear hrs hss hpw hmb hkm hjb hf0 hf1 hkl elen
            by_cases a0 : f0 < 0
            · have ga0 : decide (f0 < 0) = true := decide_eq_true a0
              have HE := Aside0.mk (show RES.2 = false by
                have h := HRS.out.1
                rw [if_neg (by rw [(inB_not f0 0 (255 + k)).mpr (by omega)]; simp)] at h
                rw [h])
              go_wp2_with fail
              go_ret2
              exact ⟨_, by rw [HE.out]; rfl, (fun h => by rw [HE.out] at h; cases h), by repeat (first | exact below_alloc HB.out _ | apply pw_below_drewN)⟩
            · have ga0 : decide (f0 < 0) = false := decide_eq_false a0
              by_cases a1 : f0 ≥ 256 + (k : Int)
              · have ga1 : decide (f0 ≥ 256 + (k : Int)) = true := decide_eq_true a1
                have HE := Aside0.mk (show RES.2 = false by
                  have h := HRS.out.1
                  rw [if_neg (by rw [(inB_not f0 0 (255 + k)).mpr (by omega)]; simp)] at h
                  rw [h])
                go_wp2_with fail
                go_ret2
                exact ⟨_, by rw [HE.out]; rfl, (fun h => by rw [HE.out] at h; cases h), by repeat (first | exact below_alloc HB.out _ | apply pw_below_drewN)⟩
              · have ga1 : decide (f0 ≥ 256 + (k : Int)) = false := decide_eq_false a1
                by_cases a2 : f1 < 0
                · have ga2 : decide (f1 < 0) = true := decide_eq_true a2
                  have HE := Aside0.mk (show RES.2 = false by
                    have h := HRS.out.1
                    rw [if_neg (by rw [(inB_not f1 0 (255 + k)).mpr (by omega)]; simp)] at h
                    rw [h])
                  go_wp2_with fail
                  go_ret2
                  exact ⟨_, by rw [HE.out]; rfl, (fun h => by rw [HE.out] at h; cases h), by repeat (first | exact below_alloc HB.out _ | apply pw_below_drewN)⟩
                · have ga2 : decide (f1 < 0) = false := decide_eq_false a2
                  by_cases a3 : f1 ≥ 256 + (k : Int)
                  · have ga3 : decide (f1 ≥ 256 + (k : Int)) = true := decide_eq_true a3
                    have HE := Aside0.mk (show RES.2 = false by
                      have h := HRS.out.1
                      rw [if_neg (by rw [(inB_not f1 0 (255 + k)).mpr (by omega)]; simp)] at h
                      rw [h])
                    go_wp2_with fail
                    go_ret2
                    exact ⟨_, by rw [HE.out]; rfl, (fun h => by rw [HE.out] at h; cases h), by repeat (first | exact below_alloc HB.out _ | apply pw_below_drewN)⟩
                  · have ga3 : decide (f1 ≥ 256 + (k : Int)) = false := decide_eq_false a3
                    have hp0 := (inB_iff f0 0 (255 + k)).mpr (by omega)
                    have hp1 := (inB_iff f1 0 (255 + k)).mpr (by omega)
                    have hbl : b < wr.heap.size := (Array.getElem?_eq_some_iff.1 HM.out).1
                    have hsw : ∀ q ∈ seenP l k, wfP q := by
                      intro q hq
                      obtain ⟨t, _, ht, rfl⟩ := (seen_mem _ _ _).1 hq
                      exact HO.out _ (List.getElem_mem ht)
                    have hpw : wfP (f0, f1) := HRS.out.2.2
                    by_cases cm : (f0, f1) ∈ seenP l k
                    · have HE := Aside0.mk (show RES.2 = false by
                        have h := HRS.out.1
                        rw [if_neg (by simp [cm])] at h
                        rw [h])
                      have LK : ∀ (ob : Obj), (Instr.lookup 97 (.map (some b)) (.agg #[.int .i64 f0, .int .i64 f1]) false).run Try.prog (wr.alloc ob) = .ok (.int .i64 1) (wr.alloc ob) := fun ob => look_in (p := (f0, f1)) mk97 (set_other HM.out (Below.heap_alloc wr ob b hbl)) hsw cm
                      have HLK := Aside0.mk LK
                      clear LK
                      go_wp2_with fail
                      rw [HLK.out]
                      go_wp2_with fail
                      go_ret2
                      exact ⟨_, by rw [HE.out]; rfl, (fun h => by rw [HE.out] at h; cases h), below_alloc HB.out _⟩
                    · have LK : ∀ (ob : Obj) (j : Nat), (Instr.lookup 97 (.map (some b)) (.agg #[.int .i64 f0, .int .i64 f1]) false).run Try.prog ((wr.alloc ob).drewN j) = .ok (.int .i64 0) ((wr.alloc ob).drewN j) := fun ob j => look_out (p := (f0, f1)) mk97 (set_other HM.out (Below.heap_alloc wr ob b hbl)) hsw hpw cm
                      have HLK := Aside0.mk LK
                      have HLK0 : Aside0 (∀ ob : Obj, (Instr.lookup 97 (.map (some b)) (.agg #[.int .i64 f0, .int .i64 f1]) false).run Try.prog (wr.alloc ob) = .ok (.int .i64 0) (wr.alloc ob)) := Aside0.mk (fun ob => LK ob 0)
                      have HCM := Aside0.mk cm
                      have HP := Aside0.mk (And.intro hp0 hp1)
                      clear LK cm hp0 hp1
                      go_wp2_with fail
                      rw [HLK0.out]
                      go_wp2_with fail
                      have q2 : (wr.alloc (.cells #[.int .i64 f0, .int .i64 f1] 77 (0, 0))).cell? ⟨wr.heap.size, 0, none⟩ = some (.int .i64 f0) := (blk_cell (blk_new wr (.cells #[.int .i64 f0, .int .i64 f1] 77 (0, 0))) 0).trans rfl
                      have q3 : (wr.alloc (.cells #[.int .i64 f0, .int .i64 f1] 77 (0, 0))).cell? ⟨wr.heap.size, 1, none⟩ = some (.int .i64 f1) := (blk_cell (blk_new wr (.cells #[.int .i64 f0, .int .i64 f1] 77 (0, 0))) 1).trans rfl
                      have HG := Aside0.mk (blk_new wr (.cells #[.int .i64 f0, .int .i64 f1] 77 (0, 0)))
                      have LK0 := fun j => HLK.out (.cells #[.int .i64 f0, .int .i64 f1] 77 (0, 0)) j
                      have HS1 := fun j => (set_other (w' := (wr.alloc (.cells #[.int .i64 f0, .int .i64 f1] 77 (0, 0))).drewN j) HM.out (Below.heap_alloc wr _ b hbl))
                      obtain ⟨H, hH⟩ : ∃ H, H = half (wr.alloc (.cells #[.int .i64 f0, .int .i64 f1] 77 (0, 0))) b (seenP l k) (f0, f1) := ⟨_, rfl⟩
                      obtain ⟨F, hF⟩ : ∃ F, F = full (wr.alloc (.cells #[.int .i64 f0, .int .i64 f1] 77 (0, 0))) b (seenP l k) (f0, f1) := ⟨_, rfl⟩
                      have EN0 : ∀ j, (Instr.mapEntry 97 (.map (some b)) (.agg #[.int .i64 f0, .int .i64 f1])).run Try.prog ((wr.alloc (.cells #[.int .i64 f0, .int .i64 f1] 77 (0, 0))).drewN j) = .ok (.tuple #[.int .i64 0, .int .i64 (seenP l k).length]) (H.drewN j) := fun j => by
                        rw [hH]; exact entry_out (p := (f0, f1)) mk97 (HS1 j) hsw hpw HCM.out
                      have LH0 : ∀ j, (Instr.lookup 97 (.map (some b)) (.agg #[.int .i64 f0, .int .i64 f1]) false).run Try.prog (H.drewN j) = .ok (.int .i64 0) (H.drewN j) := fun j => by
                        rw [hH]; exact look_half (p := (f0, f1)) mk97 (HS1 j) hsw hpw HCM.out
                      have ES0 : ∀ j, (Instr.entryStore 97 (.map (some b)) (.int .i64 (seenP l k).length) (.int .i64 1)).run Try.prog (H.drewN j) = .ok () (F.drewN j) := fun j => by
                        rw [hH, hF]; exact store_half (p := (f0, f1)) 97 (half_block (p := (f0, f1)) (HS1 j))
                      have HF := Aside0.mk (And.intro hH hF)
                      have HSZ := Aside0.mk (HS1 0)
                      obtain ⟨sl, hsl⟩ : ∃ sl, sl = (seenP l k).length := ⟨_, rfl⟩
                      rw [← hsl] at EN0 ES0
                      have LK1 : (Instr.lookup 97 (.map (some b)) (.agg #[.int .i64 f0, .int .i64 f1]) false).run Try.prog ((wr.alloc (.cells #[.int .i64 f0, .int .i64 f1] 77 (0, 0))).drew) = .ok (.int .i64 0) ((wr.alloc (.cells #[.int .i64 f0, .int .i64 f1] 77 (0, 0))).drew) := LK0 1
                      have EN1 : (Instr.mapEntry 97 (.map (some b)) (.agg #[.int .i64 f0, .int .i64 f1])).run Try.prog ((wr.alloc (.cells #[.int .i64 f0, .int .i64 f1] 77 (0, 0))).drew) = .ok (.tuple #[.int .i64 0, .int .i64 sl]) (H.drew) := EN0 1
                      have LH1 : (Instr.lookup 97 (.map (some b)) (.agg #[.int .i64 f0, .int .i64 f1]) false).run Try.prog (H.drew) = .ok (.int .i64 0) (H.drew) := LH0 1
                      have ES1 : (Instr.entryStore 97 (.map (some b)) (.int .i64 sl) (.int .i64 1)).run Try.prog (H.drew) = .ok () (F.drew) := ES0 1
                      clear LK0 EN0 LH0 ES0
                      clear hH hF hsl HS1 hsw hpw
                      go_region
                      have HNS := Aside0.mk (show IsSet F b (seenP l (k + 1)) by
                        have h := full_set (p := (f0, f1)) HSZ.out
                        rw [HF.out.2, HRS.out.2.1]
                        exact h)
                      have HNB := Aside0.mk (show Below w.heap.size w F by
                        rw [HF.out.2]
                        exact (below_alloc HB.out _).trans (full_below (p := (f0, f1)) HSZ.out HBB.out))
                      have HNG := Aside0.mk (show F.heap[wr.heap.size]? = some (.cells #[.int .i64 f0, .int .i64 f1] 77 (0, 0)) by
                        rw [HF.out.2]
                        exact (full_other (p := (f0, f1)) HSZ.out (by omega)).trans HG.out)
                      have HNR := Aside0.mk (show Kd.R Kd.string 9 F w.heap.size (fun j => j ≠ b) (.slice A4 (256 + k) c4) (baseN 256 ++ T) by
                        rw [HF.out.2]
                        exact Kd.R_step (Kd.R_alloc HS.out (.cells #[.int .i64 f0, .int .i64 f1] 77 (0, 0))) (fun j hj _ => full_other (p := (f0, f1)) HSZ.out hj))
                      clear EN1 LH1 ES1 LK1 q2 q3 HG HS HM
                      obtain ⟨len4, cc4, C4⟩ := Kd.R_reads' HNR.out
                      have lenT : (baseN 256 ++ T).length = 256 + k := by rw [List.length_append, baseN_length, HK.out.2.1]
                      have b0 := (inB_iff _ _ _).1 HP.out.1
                      have b1 := (inB_iff _ _ _).1 HP.out.2
                      obtain ⟨ad4, e4, s0⟩ := Kd.at_string C4 f0 b0.1 (by omega)
                      subst e4
                      obtain ⟨ad4', e4', s1⟩ := Kd.at_string C4 f1 b1.1 (by omega)
                      injection e4' with e4'
                      subst e4'
                      rw [get_base T f0 b0.1] at s0
                      rw [get_base T f1 b1.1] at s1
                      have r0 : F.cell? ⟨wr.heap.size, 0, none⟩ = some (.int .i64 f0) := (blk_cell HNG.out 0).trans rfl
                      have r1 : F.cell? ⟨wr.heap.size, 1, none⟩ = some (.int .i64 f1) := (blk_cell HNG.out 1).trans rfl
                      have z0 := get_size T HK.out.2.2.1 f0
                      have z1 := get_size T HK.out.2.2.1 f1
                      have HRR := HRS.out.1
                      rw [HP.out.1, HP.out.2, decide_eq_false HCM.out, Bool.not_false, Bool.and_true, Bool.and_true, Bool.true_and] at HRR
                      obtain ⟨t0, ht0⟩ : ∃ t0, t0 = getB T f0 := ⟨_, rfl⟩
                      obtain ⟨t1, ht1⟩ : ∃ t1, t1 = getB T f1 := ⟨_, rfl⟩
                      have HRR2 := Aside0.mk HRR
                      clear HRR len4 C4
                      rw [← ht0] at s0 z0
                      rw [← ht1] at s1 z1
                      have HTT := Aside0.mk (And.intro ht0 ht1)
                      clear ht0 ht1 lenT
                      go_wp2_with fail
                      go_region
                      have hbF : b < F.heap.size := (Array.getElem?_eq_some_iff.1 HNS.out).1
                      have esz : (getB T f0 ++ getB T f1).size = t0.size + t1.size := by rw [ByteArray.size_append, HTT.out.1, HTT.out.2]
                      by_cases cs : t0.size + t1.size ≤ 200
                      · have g1 : decide (200 < (t0.size : Int) + (t1.size : Int)) = false := decide_eq_false (by omega)
                        have g2 : decide (200 < t0.size + t1.size) = false := decide_eq_false (by omega)
                        have HE := Aside0.mk (show RES = runB (seenP l (k + 1)) (T ++ [t0 ++ t1]) (l.drop (k + 1)) by
                          have h := HRR2.out
                          rw [decide_eq_true (by omega), if_pos rfl] at h
                          rw [h, HTT.out.1, HTT.out.2])
                        clear esz
                        go_wp2_with ((with_reducible refine gate_builtin (b := .append) (xs := #[.tmp 81, .tmp 83]) rfl ?_); at_builtin; refine Kd.R_append (W := F.drew.drew) Kd.string (w0 := w) w.heap.size rfl (.tmp 81) (.tmp 83) 72 9 (.string ⟨#[]⟩) 16 rfl Try.underlying72 info9 rfl (by decide) (by omega) (.slice (some ad4) (256 + k) c4) (baseN 256 ++ T) (t0 ++ t1) [.string (t0 ++ t1)] (fun j => j ≠ b) (fun _ => False) rfl rfl ?aP (fun _ hk => hk.elim) ?aF ?aO ?aB ?aS ?aL ?_; (case aP => exact rfl); (case aB => exact (by repeat (first | exact HNB.out | apply below_drew1 | apply pw_below_drewN))); (case aF => exact (fun j hj => by have hj' : F.heap.size ≤ j := hj; show j ≠ b; omega)); (case aO => exact (by repeat (first | exact HNR.out | apply Kd.R_drew | apply Kd.R_drewN))); (case aS => exact HNB.out.size); (case aL => rw [List.length_append, baseN_length, HK.out.2.1]; omega); intro v116 w37 ho hb hg hat; have HS3 := Aside0.mk ho; have HB3 := Aside0.mk hb; have HM3 := Aside0.mk (show IsSet w37 b (seenP l (k + 1)) from (hg.block b hbF (Kd.R_away HNR.out (fun _ h => h))).trans HNS.out); clear ho hb hg hat)
                        go_roundg (gk - 1)
                        case measure => have := HK.out; omega
                        case rel =>
                          refine ⟨k + 1, T ++ [t0 ++ t1], by go_num, ⟨by have := HK.out; omega, by rw [List.length_append, HK.out.2.1]; rfl, ?_, HE.out⟩, HM3, ⟨by rw [← List.append_assoc]; exact HS3.out⟩, HB3⟩
                          intro t ht
                          rcases List.mem_append.1 ht with ht | ht
                          · exact HK.out.2.2.1 t ht
                          · rw [List.mem_singleton] at ht
                            rw [ht, ByteArray.size_append]; exact cs
                      · have g1 : decide (200 < (t0.size : Int) + (t1.size : Int)) = true := decide_eq_true (by omega)
                        have g2 : decide (200 < t0.size + t1.size) = true := decide_eq_true (by omega)
                        have HE := Aside0.mk (show RES.2 = false by
                          have h := HRR2.out
                          rw [decide_eq_false (by omega), if_neg (by decide)] at h
                          rw [h])
                        clear esz
                        go_wp2_with fail
                        go_ret2
                        exact ⟨_, by rw [HE.out]; rfl, (fun h => by rw [HE.out] at h; cases h), by repeat (first | exact HNB.out | apply below_drew1 | apply pw_below_drewN)⟩
          · have e3 : decide ((k : Int) < (N : Int)) = false := decide_eq_false (by omega)
            have HE := Aside0.mk (show RES = (T, true) by
              have h := HK.out
              rw [h.2.2.2, List.drop_eq_nil_of_le (by have := HN.out; omega)]; rfl)
            go_wp2_with fail
            go_ret2
            exact ⟨_, by rw [HE.out]; rfl, (fun _ => by rw [HE.out]; exact Kd.R_mono HS.out (fun _ _ => trivial)), HB.out⟩
end Go.Proofs.Ytkbbgjoohffooaa.TextW
