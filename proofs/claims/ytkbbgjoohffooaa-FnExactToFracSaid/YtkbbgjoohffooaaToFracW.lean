/- impl.ToFrac, walked: its closure by a contract of its own. -/
import Derived.Test.YtkbbgjoohffooaaFracP
import Derived.OneCell
namespace Go.Proofs.Ytkbbgjoohffooaa.PFnExactToFrac
open Go.RowKit Go.Proofs.Ytkbbgjoohffooaa.Aid Go.Proofs.YtkbbgjoohffooaaW.PrintWords Go.Proofs.YtkbbgjoohffooaaW.PrintLast Go.Proofs.YtkbbgjoohffooaaW.PrintMore Go.Proofs.Ytkbbgjoohffooaa.FracP
set_option linter.unusedVariables false
set_option linter.unusedSimpArgs false
theorem inv_bd {x r0 t0 r1 t1 : Int} (h : Inv x r0 t0 r1 t1) : 0 ≤ r1 ∧ r1 < r0 ∧ 32767 < r0 ∧ r0 ≤ 2147483647 ∧ -2147483647 ≤ t1 ∧ t1 ≤ 2147483647 := by
  obtain ⟨sg, T0, T1, a, bb, hs, e1, e0, p0, p1, hd, _, _, q1, q2, q3, q4⟩ := h
  have b1 : 1 * T1 ≤ r0 * T1 := Int.mul_le_mul_of_nonneg_right (by omega) (by omega)
  have b2 : 0 ≤ r1 * T0 := Int.mul_nonneg q1 p0
  refine ⟨q1, q2, q3, q4, ?_, ?_⟩ <;> rcases hs with rfl | rfl <;> omega
/-- The block of the closure's rows. -/
def Rows4 (w : World) (b : Nat) (r0 t0 r1 t1 : Int) : Prop := w.heap[b]? = some (.cells #[.int .i64 r0, .int .i64 t0, .int .i64 r1, .int .i64 t1] 89 (0, 0))
set_option maxRecDepth 100000 in
set_option maxHeartbeats 1000000 in
theorem next_calls (x : Int) (b : Nat) (r0 t0 r1 t1 : Int) (w : World) (X : Rows4 w b r0 t0 r1 t1) (hI : Inv x r0 t0 r1 t1) (hc : 32767 < r1) :
    Calls Try.prog 63 #[.pointer (some ⟨b, 0, none⟩)] w fun e w' => e = .returned (.tuple #[]) ∧ Rows4 w' b r1 t1 (r0 - r0 / r1 * r1) (t0 - r0 / r1 * t1) ∧ Below b w w' := by
  obtain ⟨hI', ⟨a1, a2⟩, ⟨a3, a4⟩, ⟨a5, a6⟩, a7, a8⟩ := inv_step hI hc
  obtain ⟨q1, q2, q3, q4, q5, q6⟩ := inv_bd hI
  have e1 : wrap64 (r0 / r1 * r1) = r0 / r1 * r1 := wid (by omega) (by omega)
  have e2 : wrap64 (r0 / r1 * t1) = r0 / r1 * t1 := wid (by omega) (by omega)
  have e3 : wrap64 (r0 - r0 / r1 * r1) = r0 - r0 / r1 * r1 := wid (by omega) (by omega)
  have e4 : wrap64 (t0 - r0 / r1 * t1) = t0 - r0 / r1 * t1 := wid (by omega) (by omega)
  have E := Aside0.mk (And.intro e1 (And.intro e2 (And.intro e3 e4)))
  clear e1 e2 e3 e4 a1 a2 a3 a4 a5 a6 a7 a8 hI'
  have c0 : w.cell? ⟨b, 0, none⟩ = some (.int .i64 r0) := (blk_cell X 0).trans rfl
  have c1 : w.cell? ⟨b, 1, none⟩ = some (.int .i64 t0) := (blk_cell X 1).trans rfl
  have c2 : w.cell? ⟨b, 2, none⟩ = some (.int .i64 r1) := (blk_cell X 2).trans rfl
  have c3 : w.cell? ⟨b, 3, none⟩ = some (.int .i64 t1) := (blk_cell X 3).trans rfl
  have d0 := blk_frozen X 0
  have d1 := blk_frozen X 1
  have d2 := blk_frozen X 2
  have d3 := blk_frozen X 3
  have X' := Aside0.mk X
  clear X
  have hz : (r1 == 0) = false := by simp; omega
  go_enter Try.func63, Try.ntmps63
  go_wp2_with fail
  obtain ⟨e1, e2, e3, e4⟩ := E.out
  rw [e1, e2, e3, e4]
  have X := X'.out
  clear X' E
  go_end0
  refine ⟨rfl, ?_, ?_⟩
  · exact blk_put (cs := #[.int .i64 r1, .int .i64 t1, .int .i64 (r0 - r0 / r1 * r1), .int .i64 t1]) (blk_put (cs := #[.int .i64 r1, .int .i64 t1, .int .i64 r1, .int .i64 t1]) (blk_put (cs := #[.int .i64 r1, .int .i64 t0, .int .i64 r1, .int .i64 t1]) (blk_put X 0 _ rfl) 1 _ rfl) 2 _ rfl) 3 _ rfl
  · exact ((((Below.refl b w).setCell (Nat.le_refl _) _).setCell (Nat.le_refl _) _).setCell (Nat.le_refl _) _).setCell (Nat.le_refl _) _
set_option maxRecDepth 100000 in
set_option maxHeartbeats 4000000 in
theorem impl_ToFrac_calls (a0 n d : Int) (ok : Bool) (w : World) (h : spec_ToFrac.l0 65535 (a0 % 2147483647) 0 1 = some (n, d, ok)) :
    Calls Try.prog 37 #[.int .i64 a0] w fun e w' => e = .returned (.tuple #[.agg #[.int .i64 n, .int .i64 d], .bool ok]) ∧ Below w.heap.size w w' := by
  have x0 := m_lo a0
  have x1 := m_hi a0
  obtain ⟨x, hx⟩ : ∃ x, x = a0 % 2147483647 := ⟨_, rfl⟩
  rw [← hx] at h x0 x1
  have H := Aside0.mk (And.intro h (And.intro x0 x1))
  clear h x0 x1
  have M := fun w => impl_Mod.calls a0 x w (by rw [iMod, hx])
  clear hx
  go_enter Try.func37, Try.ntmps37
  go_wp2_with fail
  refine (M _).mono ?_
  rintro e w' ⟨rfl, ⟨nd, rfl⟩⟩
  go_wp2_with fail
  have HR : Rows4 (((w.alloc (.cells #[.int .i64 0, .int .i64 0] 51 (0, 0))).drewN nd).alloc (.cells #[.int .i64 2147483647, .int .i64 0, .int .i64 x, .int .i64 1] 89 (0, 0))) (w.heap.size + 1) 2147483647 0 x 1 := by
    have := blk_new ((w.alloc (.cells #[.int .i64 0, .int .i64 0] 51 (0, 0))).drewN nd) (.cells #[.int .i64 2147483647, .int .i64 0, .int .i64 x, .int .i64 1] 89 (0, 0))
    have e : ((w.alloc (.cells #[.int .i64 0, .int .i64 0] 51 (0, 0))).drewN nd).heap.size = w.heap.size + 1 := by
      show (w.heap.push _).size = _
      exact Array.size_push _
    rw [e] at this
    exact this
  have HZ := Aside0.mk (blk_alloc (blk_drewN (blk_new w (.cells #[.int .i64 0, .int .i64 0] 51 (0, 0))) nd) (.cells #[.int .i64 2147483647, .int .i64 0, .int .i64 x, .int .i64 1] 89 (0, 0)))
  have HB := Aside0.mk (below_alloc (pw_below_drewN (below_alloc (Below.refl _ w) (.cells #[.int .i64 0, .int .i64 0] 51 (0, 0))) nd) (.cells #[.int .i64 2147483647, .int .i64 0, .int .i64 x, .int .i64 1] 89 (0, 0)))
  have HR' := Aside0.mk HR
  clear HR
  go_loopg [] 2147483647 (fun kq wr => ∃ (r0 t0 r1 t1 : Int), Aside0 (Inv x r0 t0 r1 t1 ∧ r1.toNat ≤ kq) ∧ Aside0 (Rows4 wr (w.heap.size + 1) r0 t0 r1 t1) ∧ Aside0 (wr.heap[w.heap.size]? = some (.cells #[.int .i64 0, .int .i64 0] 51 (0, 0))) ∧ Aside0 (Below w.heap.size w wr))
  case atStart => exact ⟨_, _, _, _, ⟨inv_start x H.out.2.1 H.out.2.2, by have := H.out.2.2; omega⟩, HR', HZ, HB⟩
  case round =>
    clear HR' HZ HB
    obtain ⟨r0, t0, r1, t1, HI, HR, HZ, HB⟩ := hrel
    obtain ⟨q1, q2, q3, q4, q5, q6⟩ := inv_bd HI.out.1
    have c0 : wr.cell? ⟨w.heap.size + 1, 0, none⟩ = some (.int .i64 r0) := (blk_cell HR.out 0).trans rfl
    have c1 : wr.cell? ⟨w.heap.size + 1, 1, none⟩ = some (.int .i64 t0) := (blk_cell HR.out 1).trans rfl
    have c2 : wr.cell? ⟨w.heap.size + 1, 2, none⟩ = some (.int .i64 r1) := (blk_cell HR.out 2).trans rfl
    have c3 : wr.cell? ⟨w.heap.size + 1, 3, none⟩ = some (.int .i64 t1) := (blk_cell HR.out 3).trans rfl
    by_cases hc : 32767 < r1
    · have d1 : decide (r1 > 32767) = true := decide_eq_true hc
      have HN := next_calls x (w.heap.size + 1) r0 t0 r1 t1 wr HR.out HI.out.1 hc
      go_wp2_with (go_at_call 63; refine HN.mono ?_; rintro e w2 ⟨rfl, hr4, hb4⟩)
      have HQ := inv_step HI.out.1 hc
      go_roundg (r0 - r0 / r1 * r1).toNat
      case measure => have := HI.out.2; have := HQ.2.2.2.2; omega
      case rel => exact ⟨_, _, _, _, ⟨HQ.1, Nat.le_refl _⟩, ⟨hr4⟩, ⟨(hb4.block _ (Nat.lt_succ_self _)).trans HZ.out⟩, ⟨HB.out.trans (hb4.mono (Nat.le_succ _))⟩⟩
    · have d1 : decide (r1 > 32767) = false := decide_eq_false hc
      by_cases ht : t1 < 0
      · have d2 : decide (t1 < 0) = true := decide_eq_true ht
        go_wp2_with fail
        have HG := Aside0.mk (blk_new wr (.cells #[.int .i64 (-r1), .int .i64 (-t1)] 51 (0, 0)))
        have HZ2 := Aside0.mk (blk_alloc HZ.out (.cells #[.int .i64 (-r1), .int .i64 (-t1)] 51 (0, 0)))
        have HB2 := Aside0.mk (below_alloc HB.out (.cells #[.int .i64 (-r1), .int .i64 (-t1)] 51 (0, 0)))
        have SM := same H.out.2.1 H.out.2.2 HI.out.1 (by omega)
        rw [H.out.1] at SM
        injection SM with SM
        rw [Prod.mk.injEq, Prod.mk.injEq] at SM
        obtain ⟨s1, s2, s3⟩ := SM
        rw [show rowN r1 t1 = -r1 from if_pos ht] at s1
        rw [show rowD t1 = -t1 from if_pos ht] at s2
        have eb : endB x r1 t1 = (fracB (-r1) (-t1) && (ofFracI (-r1) (-t1) == x)) := by
          unfold endB
          rw [show rowN r1 t1 = -r1 from if_pos ht, show rowD t1 = -t1 from if_pos ht]
        rw [eb] at s1 s2 s3
        cases F : fracB (-r1) (-t1) with
        | false =>
          rw [F, Bool.false_and] at s1 s2 s3
          simp only [Bool.false_eq_true, if_false] at s1 s2
          subst s1 s2 s3
          refine (impl_FracOk.calls 40001 (-r1) (-t1) false _ (by rw [iFrac 40001 (by decide), F])).mono ?_
          rintro e w3 ⟨rfl, hb3⟩
          have HZ3 := Aside0.mk (blk_below HZ2.out hb3)
          have HB3 := Aside0.mk (below_step HB2.out hb3)
          have z0 := (blk_cell HZ3.out 0).trans rfl
          have z1 := (blk_cell HZ3.out 1).trans rfl
          have y0 := blk_frozen HZ3.out 0
          have y1 := blk_frozen HZ3.out 1
          clear hb3
          go_wp2_with fail
          have hsz := blk_lt HZ3.out
          refine bodyPost_ret (v := .tuple #[.agg #[.int .i64 0, .int .i64 0], .bool false]) (by simp [results, Try.results37, go_sem, z0, z1, hsz]) rfl ⟨rfl, ?_⟩
          exact below_set (below_set HB3.out (Nat.le_refl _)) (Nat.le_refl _)
        | true =>
          rw [F, Bool.true_and] at s1 s2 s3
          obtain ⟨V, hV⟩ : ∃ V, V = ofFracI (-r1) (-t1) := ⟨_, rfl⟩
          rw [← hV] at s1 s2 s3
          have MO := fun w => impl_OfFrac.calls 40001 (-r1) (-t1) V w (by rw [hV]; exact iOfFrac _ _)
          clear hV
          refine (impl_FracOk.calls 40001 (-r1) (-t1) true _ (by rw [iFrac 40001 (by decide), F])).mono ?_
          rintro e w3 ⟨rfl, hb3⟩
          have HZ3 := Aside0.mk (blk_below HZ2.out hb3)
          have HG3 := Aside0.mk (blk_below HG.out hb3)
          have HB3 := Aside0.mk (below_step HB2.out hb3)
          have g0 := (blk_cell HG3.out 0).trans rfl
          have g1 := (blk_cell HG3.out 1).trans rfl
          clear hb3
          go_wp2_with fail
          refine (MO _).mono ?_
          rintro e w4 ⟨rfl, hb4⟩
          have HZ4 := Aside0.mk (blk_below HZ3.out hb4)
          have HG4 := Aside0.mk (blk_below HG3.out hb4)
          have HB4 := Aside0.mk (below_step HB3.out hb4)
          clear g0 g1 hb4 HG HG3 HZ2 HZ3 HB2 HB3
          have g0 := (blk_cell HG4.out 0).trans rfl
          have g1 := (blk_cell HG4.out 1).trans rfl
          have z0 := (blk_cell HZ4.out 0).trans rfl
          have z1 := (blk_cell HZ4.out 1).trans rfl
          have y0 := blk_frozen HZ4.out 0
          have y1 := blk_frozen HZ4.out 1
          go_wp2_with fail
          refine (M _).mono ?_
          rintro e w5 ⟨rfl, ⟨nd2, rfl⟩⟩
          have hsz := blk_lt HZ4.out
          by_cases cv : V = x
          · have dv : (V != x) = false := by simp [cv]
            have dv' : (V == x) = true := by simp [cv]
            rw [dv'] at s1 s2 s3
            simp only [if_true] at s1 s2
            subst s1 s2 s3
            clear cv dv'
            go_wp2_with fail
            refine bodyPost_ret (v := .tuple #[.agg #[.int .i64 (-r1), .int .i64 (-t1)], .bool true]) (by simp [results, Try.results37, go_sem, z0, z1, hsz]) rfl ⟨rfl, ?_⟩
            exact below_set (below_set (pw_below_drewN HB4.out nd2) (Nat.le_refl _)) (Nat.le_refl _)
          · have dv : (V != x) = true := by simp [cv]
            have dv' : (V == x) = false := by simp [cv]
            rw [dv'] at s1 s2 s3
            simp only [Bool.false_eq_true, if_false] at s1 s2
            subst s1 s2 s3
            clear cv dv'
            go_wp2_with fail
            refine bodyPost_ret (v := .tuple #[.agg #[.int .i64 0, .int .i64 0], .bool false]) (by simp [results, Try.results37, go_sem, z0, z1, hsz]) rfl ⟨rfl, ?_⟩
            exact below_set (below_set (pw_below_drewN HB4.out nd2) (Nat.le_refl _)) (Nat.le_refl _)
      · have d2 : decide (t1 < 0) = false := decide_eq_false ht
        go_wp2_with fail
        have HG := Aside0.mk (blk_new wr (.cells #[.int .i64 r1, .int .i64 t1] 51 (0, 0)))
        have HZ2 := Aside0.mk (blk_alloc HZ.out (.cells #[.int .i64 r1, .int .i64 t1] 51 (0, 0)))
        have HB2 := Aside0.mk (below_alloc HB.out (.cells #[.int .i64 r1, .int .i64 t1] 51 (0, 0)))
        have SM := same H.out.2.1 H.out.2.2 HI.out.1 (by omega)
        rw [H.out.1] at SM
        injection SM with SM
        rw [Prod.mk.injEq, Prod.mk.injEq] at SM
        obtain ⟨s1, s2, s3⟩ := SM
        rw [show rowN r1 t1 = r1 from if_neg (Int.not_lt.mpr ht)] at s1
        rw [show rowD t1 = t1 from if_neg (Int.not_lt.mpr ht)] at s2
        have eb : endB x r1 t1 = (fracB (r1) (t1) && (ofFracI (r1) (t1) == x)) := by
          unfold endB
          rw [show rowN r1 t1 = r1 from if_neg (Int.not_lt.mpr ht), show rowD t1 = t1 from if_neg (Int.not_lt.mpr ht)]
        rw [eb] at s1 s2 s3
        cases F : fracB (r1) (t1) with
        | false =>
          rw [F, Bool.false_and] at s1 s2 s3
          simp only [Bool.false_eq_true, if_false] at s1 s2
          subst s1 s2 s3
          refine (impl_FracOk.calls 40001 (r1) (t1) false _ (by rw [iFrac 40001 (by decide), F])).mono ?_
          rintro e w3 ⟨rfl, hb3⟩
          have HZ3 := Aside0.mk (blk_below HZ2.out hb3)
          have HB3 := Aside0.mk (below_step HB2.out hb3)
          have z0 := (blk_cell HZ3.out 0).trans rfl
          have z1 := (blk_cell HZ3.out 1).trans rfl
          have y0 := blk_frozen HZ3.out 0
          have y1 := blk_frozen HZ3.out 1
          clear hb3
          go_wp2_with fail
          have hsz := blk_lt HZ3.out
          refine bodyPost_ret (v := .tuple #[.agg #[.int .i64 0, .int .i64 0], .bool false]) (by simp [results, Try.results37, go_sem, z0, z1, hsz]) rfl ⟨rfl, ?_⟩
          exact below_set (below_set HB3.out (Nat.le_refl _)) (Nat.le_refl _)
        | true =>
          rw [F, Bool.true_and] at s1 s2 s3
          obtain ⟨V, hV⟩ : ∃ V, V = ofFracI (r1) (t1) := ⟨_, rfl⟩
          rw [← hV] at s1 s2 s3
          have MO := fun w => impl_OfFrac.calls 40001 (r1) (t1) V w (by rw [hV]; exact iOfFrac _ _)
          clear hV
          refine (impl_FracOk.calls 40001 (r1) (t1) true _ (by rw [iFrac 40001 (by decide), F])).mono ?_
          rintro e w3 ⟨rfl, hb3⟩
          have HZ3 := Aside0.mk (blk_below HZ2.out hb3)
          have HG3 := Aside0.mk (blk_below HG.out hb3)
          have HB3 := Aside0.mk (below_step HB2.out hb3)
          have g0 := (blk_cell HG3.out 0).trans rfl
          have g1 := (blk_cell HG3.out 1).trans rfl
          clear hb3
          go_wp2_with fail
          refine (MO _).mono ?_
          rintro e w4 ⟨rfl, hb4⟩
          have HZ4 := Aside0.mk (blk_below HZ3.out hb4)
          have HG4 := Aside0.mk (blk_below HG3.out hb4)
          have HB4 := Aside0.mk (below_step HB3.out hb4)
          clear g0 g1 hb4 HG HG3 HZ2 HZ3 HB2 HB3
          have g0 := (blk_cell HG4.out 0).trans rfl
          have g1 := (blk_cell HG4.out 1).trans rfl
          have z0 := (blk_cell HZ4.out 0).trans rfl
          have z1 := (blk_cell HZ4.out 1).trans rfl
          have y0 := blk_frozen HZ4.out 0
          have y1 := blk_frozen HZ4.out 1
          go_wp2_with fail
          refine (M _).mono ?_
          rintro e w5 ⟨rfl, ⟨nd2, rfl⟩⟩
          have hsz := blk_lt HZ4.out
          by_cases cv : V = x
          · have dv : (V != x) = false := by simp [cv]
            have dv' : (V == x) = true := by simp [cv]
            rw [dv'] at s1 s2 s3
            simp only [if_true] at s1 s2
            subst s1 s2 s3
            clear cv dv'
            go_wp2_with fail
            refine bodyPost_ret (v := .tuple #[.agg #[.int .i64 n, .int .i64 d], .bool true]) (by simp [results, Try.results37, go_sem, z0, z1, hsz]) rfl ⟨rfl, ?_⟩
            exact below_set (below_set (pw_below_drewN HB4.out nd2) (Nat.le_refl _)) (Nat.le_refl _)
          · have dv : (V != x) = true := by simp [cv]
            have dv' : (V == x) = false := by simp [cv]
            rw [dv'] at s1 s2 s3
            simp only [Bool.false_eq_true, if_false] at s1 s2
            subst s1 s2 s3
            clear cv dv'
            go_wp2_with fail
            refine bodyPost_ret (v := .tuple #[.agg #[.int .i64 0, .int .i64 0], .bool false]) (by simp [results, Try.results37, go_sem, z0, z1, hsz]) rfl ⟨rfl, ?_⟩
            exact below_set (below_set (pw_below_drewN HB4.out nd2) (Nat.le_refl _)) (Nat.le_refl _)
end Go.Proofs.Ytkbbgjoohffooaa.PFnExactToFrac
