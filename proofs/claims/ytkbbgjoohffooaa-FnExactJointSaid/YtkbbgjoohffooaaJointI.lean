/- impl.Joint, walked, with joint. No condition. -/
import Derived.Test.YtkbbgjoohffooaaJointP
namespace Go.Proofs.Ytkbbgjoohffooaa.JointP
open Go.RowKit Go.Proofs.Ytkbbgjoohffooaa.Aid Go.Proofs.YtkbbgjoohffooaaW.PrintWords Go.Proofs.YtkbbgjoohffooaaW.PrintLast Go.Proofs.YtkbbgjoohffooaaW.PrintMore
set_option linter.unusedVariables false
set_option linter.unusedSimpArgs false
set_option maxRecDepth 100000 in
set_option maxHeartbeats 2000000 in
theorem joint_yes (A0 : Option Addr) (c0 : Nat) (a : List Int) (A1 : Option Addr) (c1 : Nat) (b : List Int) (w : World) (hr0 : Kd.C (Kd.int .i64) w A0 a.length a) (hc0 : a.length ≤ c0) (hr1 : Kd.C (Kd.int .i64) w A1 b.length b) (hc1 : b.length ≤ c1) (ha : dimsB a = true) (hb : dimsB b = true) :
    Calls Try.prog 68 #[.slice A0 a.length c0, .slice A1 b.length c1] w fun e w' => ∃ v ys t, e = .returned (.tuple #[v, .bool t]) ∧ Kd.R (Kd.int .i64) 3 w' w.heap.size (fun _ => True) v ys ∧ JP t ys (jointI a b) ∧ Below w.heap.size w w' := by
  have sa := dims_len a ha
  have sb := dims_len b hb
  have HA := I.dims_calls A0 c0 a w hr0 hc0 (by omega)
  have HB1 := fun n => I.dims_calls A1 c1 b (w.drewN n) (Kd.C_drewN hr1 n) hc1 (by omega)
  have KA := fun (W : World) (h : Kd.C (Kd.int .i64) W A0 a.length a) => clone_calls A0 c0 a W h hc0 (by omega)
  have KB := fun (W : World) (h : Kd.C (Kd.int .i64) W A1 b.length b) => clone_calls A1 c1 b W h hc1 (by omega)
  rw [ha] at HA
  rw [hb] at HB1
  have HDA := Aside0.mk ha
  have HDB := Aside0.mk hb
  clear ha hb
  have HR0 := Aside0.mk hr0
  have HR1 := Aside0.mk hr1
  clear hr0 hr1
  obtain ⟨la, hla⟩ : ∃ la, la = a.length := ⟨_, rfl⟩
  obtain ⟨lb, hlb⟩ : ∃ lb, lb = b.length := ⟨_, rfl⟩
  have HLA := Aside0.mk hla
  have HLB := Aside0.mk hlb
  rw [← hla] at hc0 sa HA KA HR0
  rw [← hlb] at hc1 sb HB1 KB HR1
  rw [← hla, ← hlb]
  clear hla hlb
  obtain ⟨RES, hres⟩ : ∃ RES, RES = jointI a b := ⟨_, rfl⟩
  rw [← hres]
  have HRES := Aside0.mk hres
  clear hres
  go_enter Try.func68, Try.ntmps68
  go_wp2_with fail
  refine HA.mono ?_
  rintro e w' ⟨rfl, ⟨nd, rfl⟩⟩
  go_wp2_with fail
  refine (HB1 nd).mono ?_
  rintro e w' ⟨rfl, ⟨nd2, rfl⟩⟩
  clear HA HB1
  have HB := Aside0.mk (pw_below_drewN (Below.refl w.heap.size w) (nd + nd2))
  by_cases hlt : la < lb
  · have d1 : decide ((la : Int) < (lb : Int)) = true := decide_eq_true (by omega)
    have d1' : decide (la < lb) = true := decide_eq_true (by omega)
    have hll : la ≤ lb := by omega
    have HRS := Aside0.mk (show RES = if Loop.allB (okJ b a) lb 0 = true then (if dimsB (outJ b a lb) = true then outJ b a lb else []) else [] by
      rw [HRES.out, jointI_comm]; unfold jointI; rw [if_pos ⟨HDB.out, HDA.out⟩, show max b.length a.length = lb by rw [HLB.out]; have := HLB.out; have := HLA.out; omega])
    clear HRES hlt
    go_wp2_with fail
    refine (KB _ (Kd.C_below HR1.out HB.out)).mono ?_
    rintro e w1 ⟨v, rfl, hR, hb⟩
    have HB2 := Aside0.mk (below_step HB.out hb)
    obtain ⟨A6, c6, ev⟩ := Kd.R_slice hR
    rw [← HLB.out] at ev
    subst ev
    have HR := Aside0.mk (Kd.R_lower hR HB.out.size)
    clear hR hb HB
    go_wp2_with fail
    go_loopg [29] la (fun kq v29 wr => ∃ (k : Nat) (ys : List Int), v29 = .int .i64 k ∧ Aside0 (k + kq = la ∧ ys.length = lb ∧ (∀ j, j < lb → ys.getD j 0 = if lb - la ≤ j ∧ j < lb - la + k then big2 b a (lb - 1 - j) else b.getD j 0) ∧ (∀ j, j < k → okJ b a (la - 1 - j) = true)) ∧ Aside0 (Kd.R (Kd.int .i64) 3 wr w.heap.size (fun _ => True) (.slice A6 lb c6) ys) ∧ Aside0 (Below w.heap.size w wr))
    case atStart => exact ⟨0, b, rfl, ⟨by omega, HLB.out.symm, by intro j h; rw [if_neg (by omega)], by intro j h; omega⟩, HR, HB2⟩
    case round =>
      clear HR HB2
      obtain ⟨k, ys, rfl, HA, HR, HB2⟩ := hrel
      by_cases hk : k < la
      · have d2 : decide ((k : Int) < (la : Int)) = true := decide_eq_true (by omega)
        obtain ⟨i0, hi0⟩ : ∃ i0, lb - la + k = i0 := ⟨_, rfl⟩
        have hi : (lb : Int) - (la : Int) + (k : Int) = (i0 : Int) := by omega
        have hi1 : i0 < lb := by omega
        have HI := Aside0.mk hi0
        obtain ⟨ax, eax, hcx⟩ := Kd.at_int (HLB.out ▸ HR1.out : Kd.C (Kd.int .i64) w _ b.length b) (i0 : Int) (by omega) (by rw [← HLB.out]; omega)
        obtain ⟨ay, eay, hcy⟩ := Kd.at_int (HLA.out ▸ HR0.out : Kd.C (Kd.int .i64) w _ a.length a) (k : Int) (by omega) (by rw [← HLA.out]; omega)
        subst eax
        subst eay
        have hcx := pw_cell_below HB2.out hcx
        have hcy := pw_cell_below HB2.out hcy
        rw [Int.toNat_natCast, rd_nat] at hcx hcy
        obtain ⟨x, hx⟩ : ∃ x, b.getD i0 0 = x := ⟨_, rfl⟩
        obtain ⟨y, hy⟩ : ∃ y, a.getD k 0 = y := ⟨_, rfl⟩
        rw [hx] at hcx
        rw [hy] at hcy
        have HX := Aside0.mk (show bk b (la - 1 - k) = x by rw [bkX b i0 _ (by rw [← HLB.out]; exact hi1) (by rw [← HLB.out]; omega), hx])
        have HY := Aside0.mk (show bk a (la - 1 - k) = y by rw [bkX a k _ (by rw [← HLA.out]; exact hk) (by rw [← HLA.out]), hy])
        clear hx hy hi0
        obtain ⟨g, c, eg, hge, _, _⟩ := Kd.R_form HR.out (by rw [HA.out.2.1]; omega)
        obtain ⟨e6, e7, ec⟩ : A6 = some ⟨g, 0, none⟩ ∧ lb = ys.length ∧ c6 = c := by injection eg with a b c; exact ⟨a, b, c⟩
        subst e6
        have HGE := Aside0.mk hge
        obtain ⟨hc, hf⟩ := Kd.R_celln 0 HR.out (i0 : Int) (by omega) (by omega)
        rw [Int.toNat_natCast] at hc hf
        clear eg hge ec e7
        by_cases e1 : x = y
        · have t1 : (x == y) = true := beq_iff_eq.mpr e1
          have t2 : (x != y) = false := bne_eq_false_iff_eq.mpr e1
          have HOK := Aside0.mk (show okJ b a (la - 1 - k) = true by unfold okJ; rw [HX.out, HY.out, decide_eq_true e1]; exact Bool.true_or _)
          have hg : ¬ x < y := by omega
          clear e1
          have g1 : decide (x < y) = false := decide_eq_false hg
          have hg' : y ≤ x := by omega
          have g3 : decide (y ≤ x) = true := decide_eq_true (by omega)
          have g5 : max x y = x := by omega
          obtain ⟨M, hM⟩ : ∃ M, M = x := ⟨_, rfl⟩
          have HM := Aside0.mk (show big2 b a (la - 1 - k) = M by unfold big2; rw [HX.out, HY.out, if_neg hg, hM])
          subst hM
          have HP := Aside0.mk (Kd.R_putg HR.out (i0 : Int) M).1
          rw [Int.toNat_natCast] at HP
          go_wp2_with fail
          go_roundg (gk - 1)
          case measure => have := HA.out; omega
          case rel =>
            refine ⟨k + 1, ys.set i0 M, by go_num, ⟨by have := HA.out; omega, by rw [List.length_set]; exact HA.out.2.1, fun j hj => ?_, fun j hj => ?_⟩, HP, ⟨below_set HB2.out HGE.out⟩⟩
            · by_cases e : j = i0
              · rw [e, Loop.getD_set_eq _ _ _ _ (by rw [HA.out.2.1]; exact hi1), if_pos (by have := HI.out; omega), show lb - 1 - i0 = la - 1 - k by have := HI.out; omega]; exact HM.out.symm
              · rw [Loop.getD_set_ne _ _ _ _ _ e, HA.out.2.2.1 j hj]
                by_cases c : lb - la ≤ j ∧ j < lb - la + k
                · rw [if_pos c, if_pos (by omega)]
                · rw [if_neg c, if_neg (by have := HI.out; omega)]
            · by_cases e : j = k
              · rw [e]; exact HOK.out
              · exact HA.out.2.2.2 j (by omega)
        · by_cases e2 : x = 1
          · have t1 : (x == y) = false := beq_eq_false_iff_ne.mpr e1
            have t2 : (x != y) = true := bne_iff_ne.mpr e1
            have t3 : (x == 1) = true := beq_iff_eq.mpr e2
            have t4 : (x != 1) = false := bne_eq_false_iff_eq.mpr e2
            have HOK := Aside0.mk (show okJ b a (la - 1 - k) = true by unfold okJ; rw [HX.out, HY.out, decide_eq_true e2]; simp)
            clear e1 e2
            by_cases hg : x < y
            · have g1 : decide (x < y) = true := decide_eq_true hg
              have g2 : decide (x ≤ y) = true := decide_eq_true (by omega)
              have g3 : decide (y ≤ x) = false := decide_eq_false (by omega)
              have g4 : decide (y < x) = false := decide_eq_false (by omega)
              have g5 : max x y = y := by omega
              obtain ⟨M, hM⟩ : ∃ M, M = y := ⟨_, rfl⟩
              have HM := Aside0.mk (show big2 b a (la - 1 - k) = M by unfold big2; rw [HX.out, HY.out, if_pos hg, hM])
              subst hM
              have HP := Aside0.mk (Kd.R_putg HR.out (i0 : Int) M).1
              rw [Int.toNat_natCast] at HP
              go_wp2_with fail
              go_roundg (gk - 1)
              case measure => have := HA.out; omega
              case rel =>
                refine ⟨k + 1, ys.set i0 M, by go_num, ⟨by have := HA.out; omega, by rw [List.length_set]; exact HA.out.2.1, fun j hj => ?_, fun j hj => ?_⟩, HP, ⟨below_set HB2.out HGE.out⟩⟩
                · by_cases e : j = i0
                  · rw [e, Loop.getD_set_eq _ _ _ _ (by rw [HA.out.2.1]; exact hi1), if_pos (by have := HI.out; omega), show lb - 1 - i0 = la - 1 - k by have := HI.out; omega]; exact HM.out.symm
                  · rw [Loop.getD_set_ne _ _ _ _ _ e, HA.out.2.2.1 j hj]
                    by_cases c : lb - la ≤ j ∧ j < lb - la + k
                    · rw [if_pos c, if_pos (by omega)]
                    · rw [if_neg c, if_neg (by have := HI.out; omega)]
                · by_cases e : j = k
                  · rw [e]; exact HOK.out
                  · exact HA.out.2.2.2 j (by omega)
            · have g1 : decide (x < y) = false := decide_eq_false hg
              have hg' : y ≤ x := by omega
              have g3 : decide (y ≤ x) = true := decide_eq_true (by omega)
              have g5 : max x y = x := by omega
              obtain ⟨M, hM⟩ : ∃ M, M = x := ⟨_, rfl⟩
              have HM := Aside0.mk (show big2 b a (la - 1 - k) = M by unfold big2; rw [HX.out, HY.out, if_neg hg, hM])
              subst hM
              have HP := Aside0.mk (Kd.R_putg HR.out (i0 : Int) M).1
              rw [Int.toNat_natCast] at HP
              go_wp2_with fail
              go_roundg (gk - 1)
              case measure => have := HA.out; omega
              case rel =>
                refine ⟨k + 1, ys.set i0 M, by go_num, ⟨by have := HA.out; omega, by rw [List.length_set]; exact HA.out.2.1, fun j hj => ?_, fun j hj => ?_⟩, HP, ⟨below_set HB2.out HGE.out⟩⟩
                · by_cases e : j = i0
                  · rw [e, Loop.getD_set_eq _ _ _ _ (by rw [HA.out.2.1]; exact hi1), if_pos (by have := HI.out; omega), show lb - 1 - i0 = la - 1 - k by have := HI.out; omega]; exact HM.out.symm
                  · rw [Loop.getD_set_ne _ _ _ _ _ e, HA.out.2.2.1 j hj]
                    by_cases c : lb - la ≤ j ∧ j < lb - la + k
                    · rw [if_pos c, if_pos (by omega)]
                    · rw [if_neg c, if_neg (by have := HI.out; omega)]
                · by_cases e : j = k
                  · rw [e]; exact HOK.out
                  · exact HA.out.2.2.2 j (by omega)
          · by_cases e3 : y = 1
            · have t1 : (x == y) = false := beq_eq_false_iff_ne.mpr e1
              have t2 : (x != y) = true := bne_iff_ne.mpr e1
              have t3 : (x == 1) = false := beq_eq_false_iff_ne.mpr e2
              have t4 : (x != 1) = true := bne_iff_ne.mpr e2
              have t5 : (y == 1) = true := beq_iff_eq.mpr e3
              have t6 : (y != 1) = false := bne_eq_false_iff_eq.mpr e3
              have HOK := Aside0.mk (show okJ b a (la - 1 - k) = true by unfold okJ; rw [HX.out, HY.out, decide_eq_true e3]; simp)
              clear e1 e2 e3
              by_cases hg : x < y
              · have g1 : decide (x < y) = true := decide_eq_true hg
                have g2 : decide (x ≤ y) = true := decide_eq_true (by omega)
                have g3 : decide (y ≤ x) = false := decide_eq_false (by omega)
                have g4 : decide (y < x) = false := decide_eq_false (by omega)
                have g5 : max x y = y := by omega
                obtain ⟨M, hM⟩ : ∃ M, M = y := ⟨_, rfl⟩
                have HM := Aside0.mk (show big2 b a (la - 1 - k) = M by unfold big2; rw [HX.out, HY.out, if_pos hg, hM])
                subst hM
                have HP := Aside0.mk (Kd.R_putg HR.out (i0 : Int) M).1
                rw [Int.toNat_natCast] at HP
                go_wp2_with fail
                go_roundg (gk - 1)
                case measure => have := HA.out; omega
                case rel =>
                  refine ⟨k + 1, ys.set i0 M, by go_num, ⟨by have := HA.out; omega, by rw [List.length_set]; exact HA.out.2.1, fun j hj => ?_, fun j hj => ?_⟩, HP, ⟨below_set HB2.out HGE.out⟩⟩
                  · by_cases e : j = i0
                    · rw [e, Loop.getD_set_eq _ _ _ _ (by rw [HA.out.2.1]; exact hi1), if_pos (by have := HI.out; omega), show lb - 1 - i0 = la - 1 - k by have := HI.out; omega]; exact HM.out.symm
                    · rw [Loop.getD_set_ne _ _ _ _ _ e, HA.out.2.2.1 j hj]
                      by_cases c : lb - la ≤ j ∧ j < lb - la + k
                      · rw [if_pos c, if_pos (by omega)]
                      · rw [if_neg c, if_neg (by have := HI.out; omega)]
                  · by_cases e : j = k
                    · rw [e]; exact HOK.out
                    · exact HA.out.2.2.2 j (by omega)
              · have g1 : decide (x < y) = false := decide_eq_false hg
                have hg' : y ≤ x := by omega
                have g3 : decide (y ≤ x) = true := decide_eq_true (by omega)
                have g5 : max x y = x := by omega
                obtain ⟨M, hM⟩ : ∃ M, M = x := ⟨_, rfl⟩
                have HM := Aside0.mk (show big2 b a (la - 1 - k) = M by unfold big2; rw [HX.out, HY.out, if_neg hg, hM])
                subst hM
                have HP := Aside0.mk (Kd.R_putg HR.out (i0 : Int) M).1
                rw [Int.toNat_natCast] at HP
                go_wp2_with fail
                go_roundg (gk - 1)
                case measure => have := HA.out; omega
                case rel =>
                  refine ⟨k + 1, ys.set i0 M, by go_num, ⟨by have := HA.out; omega, by rw [List.length_set]; exact HA.out.2.1, fun j hj => ?_, fun j hj => ?_⟩, HP, ⟨below_set HB2.out HGE.out⟩⟩
                  · by_cases e : j = i0
                    · rw [e, Loop.getD_set_eq _ _ _ _ (by rw [HA.out.2.1]; exact hi1), if_pos (by have := HI.out; omega), show lb - 1 - i0 = la - 1 - k by have := HI.out; omega]; exact HM.out.symm
                    · rw [Loop.getD_set_ne _ _ _ _ _ e, HA.out.2.2.1 j hj]
                      by_cases c : lb - la ≤ j ∧ j < lb - la + k
                      · rw [if_pos c, if_pos (by omega)]
                      · rw [if_neg c, if_neg (by have := HI.out; omega)]
                  · by_cases e : j = k
                    · rw [e]; exact HOK.out
                    · exact HA.out.2.2.2 j (by omega)
            · have t1 : (x == y) = false := beq_eq_false_iff_ne.mpr e1
              have t2 : (x != y) = true := bne_iff_ne.mpr e1
              have t3 : (x == 1) = false := beq_eq_false_iff_ne.mpr e2
              have t4 : (x != 1) = true := bne_iff_ne.mpr e2
              have t5 : (y == 1) = false := beq_eq_false_iff_ne.mpr e3
              have t6 : (y != 1) = true := bne_iff_ne.mpr e3
              have HNO := Aside0.mk (show ¬ Loop.allB (okJ b a) lb 0 = true by
                intro hh
                have h1 := (Loop.allB_iff _ _ _).1 hh (la - 1 - k) (by omega) (by omega)
                unfold okJ at h1
                rw [HX.out, HY.out, decide_eq_false e1, decide_eq_false e2, decide_eq_false e3] at h1
                exact absurd h1 (by decide))
              clear e1 e2 e3
              go_wp2_with fail
              go_ret2
              refine ⟨_, [], _, rfl, Kd.R_nil _ _ _ _ _, ?_, HB2.out⟩
              unfold JP
              rw [HRS.out, if_neg HNO.out]; rfl
      · have d2 : decide ((k : Int) < (la : Int)) = false := decide_eq_false (by omega)
        have hje := joint_end b a HDB.out HDA.out (by rw [← HLB.out, ← HLA.out]; exact hll) ys (by rw [← HLB.out]; exact HA.out.2.1)
          (fun j hj => by
            rw [← HLB.out] at hj ⊢
            rw [← HLA.out, HA.out.2.2.1 j hj]
            have := HA.out
            by_cases c : lb - la ≤ j
            · rw [if_pos c, if_pos (by omega)]
            · rw [if_neg c, if_neg (by omega)])
          (fun j hj => by rw [← HLA.out] at hj ⊢; exact HA.out.2.2.2 j (by have := HA.out; omega))
        rw [← HLB.out] at hje
        have HJ := Aside0.mk hje
        have hrd := Kd.R_reads' HR.out
        have HD := I.dims_calls A6 c6 ys wr hrd.2.2 (by rw [← hrd.1]; exact hrd.2.1) (by rw [HA.out.2.1]; omega)
        rw [HA.out.2.1] at HD
        clear hje hrd
        obtain ⟨t, ht⟩ : ∃ t, dimsB ys = t := ⟨_, rfl⟩
        have HDD := Aside0.mk ht
        rw [ht] at HD
        clear ht
        go_wp2_with fail
        refine HD.mono ?_
        rintro e w' ⟨rfl, ⟨nd3, rfl⟩⟩
        go_wp2_with fail
        go_ret2
        refine ⟨_, ys, _, rfl, Kd.R_drewN HR.out nd3, ?_, pw_below_drewN HB2.out nd3⟩
        unfold JP
        rw [HRS.out, if_pos HJ.out.2, ← HJ.out.1, HDD.out]
  · have d1 : decide ((la : Int) < (lb : Int)) = false := decide_eq_false (by omega)
    have d1' : decide (la < lb) = false := decide_eq_false (by omega)
    have hll : lb ≤ la := by omega
    have HRS := Aside0.mk (show RES = if Loop.allB (okJ a b) la 0 = true then (if dimsB (outJ a b la) = true then outJ a b la else []) else [] by
      rw [HRES.out]; unfold jointI; rw [if_pos ⟨HDA.out, HDB.out⟩, show max a.length b.length = la by rw [HLA.out]; have := HLA.out; have := HLB.out; omega])
    clear HRES hlt
    go_wp2_with fail
    refine (KA _ (Kd.C_below HR0.out HB.out)).mono ?_
    rintro e w1 ⟨v, rfl, hR, hb⟩
    have HB2 := Aside0.mk (below_step HB.out hb)
    obtain ⟨A6, c6, ev⟩ := Kd.R_slice hR
    rw [← HLA.out] at ev
    subst ev
    have HR := Aside0.mk (Kd.R_lower hR HB.out.size)
    clear hR hb HB
    go_wp2_with fail
    go_loopg [29] lb (fun kq v29 wr => ∃ (k : Nat) (ys : List Int), v29 = .int .i64 k ∧ Aside0 (k + kq = lb ∧ ys.length = la ∧ (∀ j, j < la → ys.getD j 0 = if la - lb ≤ j ∧ j < la - lb + k then big2 a b (la - 1 - j) else a.getD j 0) ∧ (∀ j, j < k → okJ a b (lb - 1 - j) = true)) ∧ Aside0 (Kd.R (Kd.int .i64) 3 wr w.heap.size (fun _ => True) (.slice A6 la c6) ys) ∧ Aside0 (Below w.heap.size w wr))
    case atStart => exact ⟨0, a, rfl, ⟨by omega, HLA.out.symm, by intro j h; rw [if_neg (by omega)], by intro j h; omega⟩, HR, HB2⟩
    case round =>
      clear HR HB2
      obtain ⟨k, ys, rfl, HA, HR, HB2⟩ := hrel
      by_cases hk : k < lb
      · have d2 : decide ((k : Int) < (lb : Int)) = true := decide_eq_true (by omega)
        obtain ⟨i0, hi0⟩ : ∃ i0, la - lb + k = i0 := ⟨_, rfl⟩
        have hi : (la : Int) - (lb : Int) + (k : Int) = (i0 : Int) := by omega
        have hi1 : i0 < la := by omega
        have HI := Aside0.mk hi0
        obtain ⟨ax, eax, hcx⟩ := Kd.at_int (HLA.out ▸ HR0.out : Kd.C (Kd.int .i64) w _ a.length a) (i0 : Int) (by omega) (by rw [← HLA.out]; omega)
        obtain ⟨ay, eay, hcy⟩ := Kd.at_int (HLB.out ▸ HR1.out : Kd.C (Kd.int .i64) w _ b.length b) (k : Int) (by omega) (by rw [← HLB.out]; omega)
        subst eax
        subst eay
        have hcx := pw_cell_below HB2.out hcx
        have hcy := pw_cell_below HB2.out hcy
        rw [Int.toNat_natCast, rd_nat] at hcx hcy
        obtain ⟨x, hx⟩ : ∃ x, a.getD i0 0 = x := ⟨_, rfl⟩
        obtain ⟨y, hy⟩ : ∃ y, b.getD k 0 = y := ⟨_, rfl⟩
        rw [hx] at hcx
        rw [hy] at hcy
        have HX := Aside0.mk (show bk a (lb - 1 - k) = x by rw [bkX a i0 _ (by rw [← HLA.out]; exact hi1) (by rw [← HLA.out]; omega), hx])
        have HY := Aside0.mk (show bk b (lb - 1 - k) = y by rw [bkX b k _ (by rw [← HLB.out]; exact hk) (by rw [← HLB.out]), hy])
        clear hx hy hi0
        obtain ⟨g, c, eg, hge, _, _⟩ := Kd.R_form HR.out (by rw [HA.out.2.1]; omega)
        obtain ⟨e6, e7, ec⟩ : A6 = some ⟨g, 0, none⟩ ∧ la = ys.length ∧ c6 = c := by injection eg with a b c; exact ⟨a, b, c⟩
        subst e6
        have HGE := Aside0.mk hge
        obtain ⟨hc, hf⟩ := Kd.R_celln 0 HR.out (i0 : Int) (by omega) (by omega)
        rw [Int.toNat_natCast] at hc hf
        clear eg hge ec e7
        by_cases e1 : x = y
        · have t1 : (x == y) = true := beq_iff_eq.mpr e1
          have t2 : (x != y) = false := bne_eq_false_iff_eq.mpr e1
          have HOK := Aside0.mk (show okJ a b (lb - 1 - k) = true by unfold okJ; rw [HX.out, HY.out, decide_eq_true e1]; exact Bool.true_or _)
          have hg : ¬ x < y := by omega
          clear e1
          have g1 : decide (x < y) = false := decide_eq_false hg
          have hg' : y ≤ x := by omega
          have g3 : decide (y ≤ x) = true := decide_eq_true (by omega)
          have g5 : max x y = x := by omega
          obtain ⟨M, hM⟩ : ∃ M, M = x := ⟨_, rfl⟩
          have HM := Aside0.mk (show big2 a b (lb - 1 - k) = M by unfold big2; rw [HX.out, HY.out, if_neg hg, hM])
          subst hM
          have HP := Aside0.mk (Kd.R_putg HR.out (i0 : Int) M).1
          rw [Int.toNat_natCast] at HP
          go_wp2_with fail
          go_roundg (gk - 1)
          case measure => have := HA.out; omega
          case rel =>
            refine ⟨k + 1, ys.set i0 M, by go_num, ⟨by have := HA.out; omega, by rw [List.length_set]; exact HA.out.2.1, fun j hj => ?_, fun j hj => ?_⟩, HP, ⟨below_set HB2.out HGE.out⟩⟩
            · by_cases e : j = i0
              · rw [e, Loop.getD_set_eq _ _ _ _ (by rw [HA.out.2.1]; exact hi1), if_pos (by have := HI.out; omega), show la - 1 - i0 = lb - 1 - k by have := HI.out; omega]; exact HM.out.symm
              · rw [Loop.getD_set_ne _ _ _ _ _ e, HA.out.2.2.1 j hj]
                by_cases c : la - lb ≤ j ∧ j < la - lb + k
                · rw [if_pos c, if_pos (by omega)]
                · rw [if_neg c, if_neg (by have := HI.out; omega)]
            · by_cases e : j = k
              · rw [e]; exact HOK.out
              · exact HA.out.2.2.2 j (by omega)
        · by_cases e2 : x = 1
          · have t1 : (x == y) = false := beq_eq_false_iff_ne.mpr e1
            have t2 : (x != y) = true := bne_iff_ne.mpr e1
            have t3 : (x == 1) = true := beq_iff_eq.mpr e2
            have t4 : (x != 1) = false := bne_eq_false_iff_eq.mpr e2
            have HOK := Aside0.mk (show okJ a b (lb - 1 - k) = true by unfold okJ; rw [HX.out, HY.out, decide_eq_true e2]; simp)
            clear e1 e2
            by_cases hg : x < y
            · have g1 : decide (x < y) = true := decide_eq_true hg
              have g2 : decide (x ≤ y) = true := decide_eq_true (by omega)
              have g3 : decide (y ≤ x) = false := decide_eq_false (by omega)
              have g4 : decide (y < x) = false := decide_eq_false (by omega)
              have g5 : max x y = y := by omega
              obtain ⟨M, hM⟩ : ∃ M, M = y := ⟨_, rfl⟩
              have HM := Aside0.mk (show big2 a b (lb - 1 - k) = M by unfold big2; rw [HX.out, HY.out, if_pos hg, hM])
              subst hM
              have HP := Aside0.mk (Kd.R_putg HR.out (i0 : Int) M).1
              rw [Int.toNat_natCast] at HP
              go_wp2_with fail
              go_roundg (gk - 1)
              case measure => have := HA.out; omega
              case rel =>
                refine ⟨k + 1, ys.set i0 M, by go_num, ⟨by have := HA.out; omega, by rw [List.length_set]; exact HA.out.2.1, fun j hj => ?_, fun j hj => ?_⟩, HP, ⟨below_set HB2.out HGE.out⟩⟩
                · by_cases e : j = i0
                  · rw [e, Loop.getD_set_eq _ _ _ _ (by rw [HA.out.2.1]; exact hi1), if_pos (by have := HI.out; omega), show la - 1 - i0 = lb - 1 - k by have := HI.out; omega]; exact HM.out.symm
                  · rw [Loop.getD_set_ne _ _ _ _ _ e, HA.out.2.2.1 j hj]
                    by_cases c : la - lb ≤ j ∧ j < la - lb + k
                    · rw [if_pos c, if_pos (by omega)]
                    · rw [if_neg c, if_neg (by have := HI.out; omega)]
                · by_cases e : j = k
                  · rw [e]; exact HOK.out
                  · exact HA.out.2.2.2 j (by omega)
            · have g1 : decide (x < y) = false := decide_eq_false hg
              have hg' : y ≤ x := by omega
              have g3 : decide (y ≤ x) = true := decide_eq_true (by omega)
              have g5 : max x y = x := by omega
              obtain ⟨M, hM⟩ : ∃ M, M = x := ⟨_, rfl⟩
              have HM := Aside0.mk (show big2 a b (lb - 1 - k) = M by unfold big2; rw [HX.out, HY.out, if_neg hg, hM])
              subst hM
              have HP := Aside0.mk (Kd.R_putg HR.out (i0 : Int) M).1
              rw [Int.toNat_natCast] at HP
              go_wp2_with fail
              go_roundg (gk - 1)
              case measure => have := HA.out; omega
              case rel =>
                refine ⟨k + 1, ys.set i0 M, by go_num, ⟨by have := HA.out; omega, by rw [List.length_set]; exact HA.out.2.1, fun j hj => ?_, fun j hj => ?_⟩, HP, ⟨below_set HB2.out HGE.out⟩⟩
                · by_cases e : j = i0
                  · rw [e, Loop.getD_set_eq _ _ _ _ (by rw [HA.out.2.1]; exact hi1), if_pos (by have := HI.out; omega), show la - 1 - i0 = lb - 1 - k by have := HI.out; omega]; exact HM.out.symm
                  · rw [Loop.getD_set_ne _ _ _ _ _ e, HA.out.2.2.1 j hj]
                    by_cases c : la - lb ≤ j ∧ j < la - lb + k
                    · rw [if_pos c, if_pos (by omega)]
                    · rw [if_neg c, if_neg (by have := HI.out; omega)]
                · by_cases e : j = k
                  · rw [e]; exact HOK.out
                  · exact HA.out.2.2.2 j (by omega)
          · by_cases e3 : y = 1
            · have t1 : (x == y) = false := beq_eq_false_iff_ne.mpr e1
              have t2 : (x != y) = true := bne_iff_ne.mpr e1
              have t3 : (x == 1) = false := beq_eq_false_iff_ne.mpr e2
              have t4 : (x != 1) = true := bne_iff_ne.mpr e2
              have t5 : (y == 1) = true := beq_iff_eq.mpr e3
              have t6 : (y != 1) = false := bne_eq_false_iff_eq.mpr e3
              have HOK := Aside0.mk (show okJ a b (lb - 1 - k) = true by unfold okJ; rw [HX.out, HY.out, decide_eq_true e3]; simp)
              clear e1 e2 e3
              by_cases hg : x < y
              · have g1 : decide (x < y) = true := decide_eq_true hg
                have g2 : decide (x ≤ y) = true := decide_eq_true (by omega)
                have g3 : decide (y ≤ x) = false := decide_eq_false (by omega)
                have g4 : decide (y < x) = false := decide_eq_false (by omega)
                have g5 : max x y = y := by omega
                obtain ⟨M, hM⟩ : ∃ M, M = y := ⟨_, rfl⟩
                have HM := Aside0.mk (show big2 a b (lb - 1 - k) = M by unfold big2; rw [HX.out, HY.out, if_pos hg, hM])
                subst hM
                have HP := Aside0.mk (Kd.R_putg HR.out (i0 : Int) M).1
                rw [Int.toNat_natCast] at HP
                go_wp2_with fail
                go_roundg (gk - 1)
                case measure => have := HA.out; omega
                case rel =>
                  refine ⟨k + 1, ys.set i0 M, by go_num, ⟨by have := HA.out; omega, by rw [List.length_set]; exact HA.out.2.1, fun j hj => ?_, fun j hj => ?_⟩, HP, ⟨below_set HB2.out HGE.out⟩⟩
                  · by_cases e : j = i0
                    · rw [e, Loop.getD_set_eq _ _ _ _ (by rw [HA.out.2.1]; exact hi1), if_pos (by have := HI.out; omega), show la - 1 - i0 = lb - 1 - k by have := HI.out; omega]; exact HM.out.symm
                    · rw [Loop.getD_set_ne _ _ _ _ _ e, HA.out.2.2.1 j hj]
                      by_cases c : la - lb ≤ j ∧ j < la - lb + k
                      · rw [if_pos c, if_pos (by omega)]
                      · rw [if_neg c, if_neg (by have := HI.out; omega)]
                  · by_cases e : j = k
                    · rw [e]; exact HOK.out
                    · exact HA.out.2.2.2 j (by omega)
              · have g1 : decide (x < y) = false := decide_eq_false hg
                have hg' : y ≤ x := by omega
                have g3 : decide (y ≤ x) = true := decide_eq_true (by omega)
                have g5 : max x y = x := by omega
                obtain ⟨M, hM⟩ : ∃ M, M = x := ⟨_, rfl⟩
                have HM := Aside0.mk (show big2 a b (lb - 1 - k) = M by unfold big2; rw [HX.out, HY.out, if_neg hg, hM])
                subst hM
                have HP := Aside0.mk (Kd.R_putg HR.out (i0 : Int) M).1
                rw [Int.toNat_natCast] at HP
                go_wp2_with fail
                go_roundg (gk - 1)
                case measure => have := HA.out; omega
                case rel =>
                  refine ⟨k + 1, ys.set i0 M, by go_num, ⟨by have := HA.out; omega, by rw [List.length_set]; exact HA.out.2.1, fun j hj => ?_, fun j hj => ?_⟩, HP, ⟨below_set HB2.out HGE.out⟩⟩
                  · by_cases e : j = i0
                    · rw [e, Loop.getD_set_eq _ _ _ _ (by rw [HA.out.2.1]; exact hi1), if_pos (by have := HI.out; omega), show la - 1 - i0 = lb - 1 - k by have := HI.out; omega]; exact HM.out.symm
                    · rw [Loop.getD_set_ne _ _ _ _ _ e, HA.out.2.2.1 j hj]
                      by_cases c : la - lb ≤ j ∧ j < la - lb + k
                      · rw [if_pos c, if_pos (by omega)]
                      · rw [if_neg c, if_neg (by have := HI.out; omega)]
                  · by_cases e : j = k
                    · rw [e]; exact HOK.out
                    · exact HA.out.2.2.2 j (by omega)
            · have t1 : (x == y) = false := beq_eq_false_iff_ne.mpr e1
              have t2 : (x != y) = true := bne_iff_ne.mpr e1
              have t3 : (x == 1) = false := beq_eq_false_iff_ne.mpr e2
              have t4 : (x != 1) = true := bne_iff_ne.mpr e2
              have t5 : (y == 1) = false := beq_eq_false_iff_ne.mpr e3
              have t6 : (y != 1) = true := bne_iff_ne.mpr e3
              have HNO := Aside0.mk (show ¬ Loop.allB (okJ a b) la 0 = true by
                intro hh
                have h1 := (Loop.allB_iff _ _ _).1 hh (lb - 1 - k) (by omega) (by omega)
                unfold okJ at h1
                rw [HX.out, HY.out, decide_eq_false e1, decide_eq_false e2, decide_eq_false e3] at h1
                exact absurd h1 (by decide))
              clear e1 e2 e3
              go_wp2_with fail
              go_ret2
              refine ⟨_, [], _, rfl, Kd.R_nil _ _ _ _ _, ?_, HB2.out⟩
              unfold JP
              rw [HRS.out, if_neg HNO.out]; rfl
      · have d2 : decide ((k : Int) < (lb : Int)) = false := decide_eq_false (by omega)
        have hje := joint_end a b HDA.out HDB.out (by rw [← HLA.out, ← HLB.out]; exact hll) ys (by rw [← HLA.out]; exact HA.out.2.1)
          (fun j hj => by
            rw [← HLA.out] at hj ⊢
            rw [← HLB.out, HA.out.2.2.1 j hj]
            have := HA.out
            by_cases c : la - lb ≤ j
            · rw [if_pos c, if_pos (by omega)]
            · rw [if_neg c, if_neg (by omega)])
          (fun j hj => by rw [← HLB.out] at hj ⊢; exact HA.out.2.2.2 j (by have := HA.out; omega))
        rw [← HLA.out] at hje
        have HJ := Aside0.mk hje
        have hrd := Kd.R_reads' HR.out
        have HD := I.dims_calls A6 c6 ys wr hrd.2.2 (by rw [← hrd.1]; exact hrd.2.1) (by rw [HA.out.2.1]; omega)
        rw [HA.out.2.1] at HD
        clear hje hrd
        obtain ⟨t, ht⟩ : ∃ t, dimsB ys = t := ⟨_, rfl⟩
        have HDD := Aside0.mk ht
        rw [ht] at HD
        clear ht
        go_wp2_with fail
        refine HD.mono ?_
        rintro e w' ⟨rfl, ⟨nd3, rfl⟩⟩
        go_wp2_with fail
        go_ret2
        refine ⟨_, ys, _, rfl, Kd.R_drewN HR.out nd3, ?_, pw_below_drewN HB2.out nd3⟩
        unfold JP
        rw [HRS.out, if_pos HJ.out.2, ← HJ.out.1, HDD.out]
end Go.Proofs.Ytkbbgjoohffooaa.JointP
