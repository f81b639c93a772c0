-- PRINTED BY print.sh 35421559b90ae4d0a3588c463048766b98c2df88dd9212a6774a882060cdf62d: not written by this session
import Derived.Test.YtbgpehoffkbgkaaPFnExactOptOkx0
import Derived.Test.YtbgpehoffkbgkaaPFnExactOptOkx1
namespace Go.Proofs.Ytbgpehoffkbgkaa.PFnExactOptOk
open Go.RowKit Go.Proofs.YtbgpehoffkbgkaaW.PrintWords Go.Proofs.YtbgpehoffkbgkaaW.PrintLast Go.Proofs.YtbgpehoffkbgkaaW.PrintMore
attribute [local go_sem] max2_int min2_int max_two min_two max_three min_three max_four min_four   -- for this text's walks alone
set_option linter.unusedVariables false
set_option linter.unusedSimpArgs false

/-! ### spec_OptOk: function 46 -/
mutual
def spec_OptOk.j0 : Nat → Bool → List Int → List Int → List Int → Int → Int → Int → Option (Bool)
  | 0, _, _, _, _, _, _, _ => none
  | k + 1, x38, x106000, x106001, x106002, x106003, x106004, x106005 => if x38 = true then (some false) else (spec_OptOk.l0 k 0 x106000 x106001 x106002 x106003 x106004 x106005)
def spec_OptOk.l0 : Nat → Int → List Int → List Int → List Int → Int → Int → Int → Option (Bool)
  | 0, _, _, _, _, _, _, _ => none
  | k + 1, x3, x106000, x106001, x106002, x106003, x106004, x106005 => if x3 < (x106000.length : Int) then (if 0 ≤ x3 then ((spec_l5In.f (rd x106000 x3) (-68719476736) 68719476736).bind fun t109 => (if t109 = true then (if x3 < (x106001.length : Int) then ((spec_l5In.f (rd x106001 x3) (-4294967296) 4294967296).bind fun t111 => (if t111 = true then (if x3 < (x106002.length : Int) then ((spec_l5In.f (rd x106002 x3) 0 17179869184).bind fun t113 => (if t113 = true then (spec_OptOk.l0 k (wrap64 (x3 + 1)) x106000 x106001 x106002 x106003 x106004 x106005) else (some false))) else (none)) else (some false))) else (none)) else (some false))) else (none)) else (spec_OptOk.l1 k 1 x106000 x106001 x106002 x106003 x106004 x106005)
def spec_OptOk.l1 : Nat → Int → List Int → List Int → List Int → Int → Int → Int → Option (Bool)
  | 0, _, _, _, _, _, _, _ => none
  | k + 1, x4, x106000, x106001, x106002, x106003, x106004, x106005 => if x4 ≤ 65536 then (if x4 = x106004 then (some true) else (spec_OptOk.l1 k (wrap64 (x4 * 2)) x106000 x106001 x106002 x106003 x106004 x106005)) else (some false)
end
def spec_OptOk.f (k : Nat) (l0_0 : List Int) (l0_1 : List Int) (l0_2 : List Int) (a0_3 : Int) (a0_4 : Int) (a0_5 : Int) : Option (Bool) := if (l0_0.length : Int) > 4096 then (spec_OptOk.j0 k true l0_0 l0_1 l0_2 a0_3 a0_4 a0_5) else (if (l0_1.length : Int) = (l0_0.length : Int) then (if (l0_2.length : Int) = (l0_0.length : Int) then ((spec_l5In.f a0_3 0 1000000).bind fun t106 => (if t106 = true then ((spec_l5In.f a0_5 0 1000000).bind fun t107 => (spec_OptOk.j0 k (!t107) l0_0 l0_1 l0_2 a0_3 a0_4 a0_5)) else (spec_OptOk.j0 k true l0_0 l0_1 l0_2 a0_3 a0_4 a0_5))) else (spec_OptOk.j0 k true l0_0 l0_1 l0_2 a0_3 a0_4 a0_5)) else (spec_OptOk.j0 k true l0_0 l0_1 l0_2 a0_3 a0_4 a0_5))
theorem spec_OptOk.mono_l : ∀ k, (∀ y0 y1 y2 y3 y4 y5 y6, LeO (spec_OptOk.j0 k y0 y1 y2 y3 y4 y5 y6) (spec_OptOk.j0 (k + 1) y0 y1 y2 y3 y4 y5 y6)) ∧ (∀ y0 y1 y2 y3 y4 y5 y6, LeO (spec_OptOk.l0 k y0 y1 y2 y3 y4 y5 y6) (spec_OptOk.l0 (k + 1) y0 y1 y2 y3 y4 y5 y6)) ∧ (∀ y0 y1 y2 y3 y4 y5 y6, LeO (spec_OptOk.l1 k y0 y1 y2 y3 y4 y5 y6) (spec_OptOk.l1 (k + 1) y0 y1 y2 y3 y4 y5 y6))
  | 0 => ⟨fun _ _ _ _ _ _ _ r h => by simp [spec_OptOk.j0] at h, fun _ _ _ _ _ _ _ r h => by simp [spec_OptOk.l0] at h, fun _ _ _ _ _ _ _ r h => by simp [spec_OptOk.l1] at h⟩
  | k + 1 => by
    obtain ⟨ih0, ih1, ih2⟩ := spec_OptOk.mono_l k
    refine ⟨?_, ?_, ?_⟩
    · intro y0 y1 y2 y3 y4 y5 y6
      unfold spec_OptOk.j0
      repeat' first
      | (with_reducible exact ih0 _ _ _ _ _ _ _)
      | (with_reducible exact ih1 _ _ _ _ _ _ _)
      | (with_reducible exact ih2 _ _ _ _ _ _ _)
      | (with_reducible exact LeO.refl _)
      | (with_reducible exact LeO.none _)
      | (with_reducible refine LeO.ite ?_ ?_)
      | (with_reducible refine LeO.bind ?_ (fun _ => ?_))
      | exact ih0 _ _ _ _ _ _ _
      | exact ih1 _ _ _ _ _ _ _
      | exact ih2 _ _ _ _ _ _ _
      | exact LeO.none _
      | refine LeO.ite ?_ ?_
      | refine LeO.bind ?_ (fun _ => ?_)
    · intro y0 y1 y2 y3 y4 y5 y6
      unfold spec_OptOk.l0
      repeat' first
      | (with_reducible exact ih0 _ _ _ _ _ _ _)
      | (with_reducible exact ih1 _ _ _ _ _ _ _)
      | (with_reducible exact ih2 _ _ _ _ _ _ _)
      | (with_reducible exact LeO.refl _)
      | (with_reducible exact LeO.none _)
      | (with_reducible refine LeO.ite ?_ ?_)
      | (with_reducible refine LeO.bind ?_ (fun _ => ?_))
      | exact ih0 _ _ _ _ _ _ _
      | exact ih1 _ _ _ _ _ _ _
      | exact ih2 _ _ _ _ _ _ _
      | exact LeO.none _
      | refine LeO.ite ?_ ?_
      | refine LeO.bind ?_ (fun _ => ?_)
    · intro y0 y1 y2 y3 y4 y5 y6
      unfold spec_OptOk.l1
      repeat' first
      | (with_reducible exact ih0 _ _ _ _ _ _ _)
      | (with_reducible exact ih1 _ _ _ _ _ _ _)
      | (with_reducible exact ih2 _ _ _ _ _ _ _)
      | (with_reducible exact LeO.refl _)
      | (with_reducible exact LeO.none _)
      | (with_reducible refine LeO.ite ?_ ?_)
      | (with_reducible refine LeO.bind ?_ (fun _ => ?_))
      | exact ih0 _ _ _ _ _ _ _
      | exact ih1 _ _ _ _ _ _ _
      | exact ih2 _ _ _ _ _ _ _
      | exact LeO.none _
      | refine LeO.ite ?_ ?_
      | refine LeO.bind ?_ (fun _ => ?_)
theorem spec_OptOk.mono : ∀ a0 a1 a2 a3 a4 a5 k, LeO (spec_OptOk.f k a0 a1 a2 a3 a4 a5) (spec_OptOk.f (k + 1) a0 a1 a2 a3 a4 a5) := by
  intro a0 a1 a2 a3 a4 a5 k
  obtain ⟨ih0, ih1, ih2⟩ := spec_OptOk.mono_l k
  unfold spec_OptOk.f
  repeat' first
      | (with_reducible exact ih0 _ _ _ _ _ _ _)
      | (with_reducible exact ih1 _ _ _ _ _ _ _)
      | (with_reducible exact ih2 _ _ _ _ _ _ _)
      | (with_reducible exact LeO.refl _)
      | (with_reducible exact LeO.none _)
      | (with_reducible refine LeO.ite ?_ ?_)
      | (with_reducible refine LeO.bind ?_ (fun _ => ?_))
      | exact ih0 _ _ _ _ _ _ _
      | exact ih1 _ _ _ _ _ _ _
      | exact ih2 _ _ _ _ _ _ _
      | exact LeO.none _
      | refine LeO.ite ?_ ?_
      | refine LeO.bind ?_ (fun _ => ?_)
set_option maxHeartbeats 8000000 in
set_option maxRecDepth 100000 in
theorem spec_OptOk.calls (k : Nat) (A0_0 : Option Addr) (c0_0 : Nat) (l0_0 : List Int) (A0_1 : Option Addr) (c0_1 : Nat) (l0_1 : List Int) (A0_2 : Option Addr) (c0_2 : Nat) (l0_2 : List Int) (a0_3 : Int) (a0_4 : Int) (a0_5 : Int) (r : Bool) (w : World) (hr0_0 : Kd.C (Kd.int .i64) w A0_0 l0_0.length l0_0) (hc0_0 : l0_0.length ≤ c0_0) (hr0_1 : Kd.C (Kd.int .i64) w A0_1 l0_1.length l0_1) (hc0_1 : l0_1.length ≤ c0_1) (hr0_2 : Kd.C (Kd.int .i64) w A0_2 l0_2.length l0_2) (hc0_2 : l0_2.length ≤ c0_2) (h : spec_OptOk.f k l0_0 l0_1 l0_2 a0_3 a0_4 a0_5 = some r) :
    Calls Try.prog 46 #[.agg #[.slice A0_0 l0_0.length c0_0, .slice A0_1 l0_1.length c0_1, .slice A0_2 l0_2.length c0_2, .int .i64 a0_3, .int .i64 a0_4, .int .i64 a0_5]] w fun e w' => e = .returned (.bool r) ∧ Below w.heap.size w w' := by
  have hu65 := Try.underlying65
  have HR0_0 := Aside0.mk hr0_0
  have HC0_0 := Aside0.mk hc0_0
  clear hr0_0 hc0_0
  have HR0_1 := Aside0.mk hr0_1
  have HC0_1 := Aside0.mk hc0_1
  clear hr0_1 hc0_1
  have HR0_2 := Aside0.mk hr0_2
  have HC0_2 := Aside0.mk hc0_2
  clear hr0_2 hc0_2
  have HB := Aside0.mk (Below.refl w.heap.size w)
  have H : (if (l0_0.length : Int) > 4096 then (spec_OptOk.j0 k true l0_0 l0_1 l0_2 a0_3 a0_4 a0_5) else (if (l0_1.length : Int) = (l0_0.length : Int) then (if (l0_2.length : Int) = (l0_0.length : Int) then ((spec_l5In.f a0_3 0 1000000).bind fun t106 => (if t106 = true then ((spec_l5In.f a0_5 0 1000000).bind fun t107 => (spec_OptOk.j0 k (!t107) l0_0 l0_1 l0_2 a0_3 a0_4 a0_5)) else (spec_OptOk.j0 k true l0_0 l0_1 l0_2 a0_3 a0_4 a0_5))) else (spec_OptOk.j0 k true l0_0 l0_1 l0_2 a0_3 a0_4 a0_5)) else (spec_OptOk.j0 k true l0_0 l0_1 l0_2 a0_3 a0_4 a0_5))) = some r := h
  clear h
  have HC2 := Aside0.mk H
  clear H
  go_enter Try.func46, Try.ntmps46
  go_upto_region 1 with (first | ((with_reducible refine gate_dst (N := 1) rfl ?_); (try (refine gate_guard (by rfl) ?_; dsimp only)); refine box_event ?hg (N := 1) ?hd (cs := #[.slice A0_0 l0_0.length c0_0, .slice A0_1 l0_1.length c0_1, .slice A0_2 l0_2.length c0_2, .int .i64 a0_3, .int .i64 a0_4, .int .i64 a0_5]) (t := 65) ?hr ?_; (case hd => rfl); (case hg => rfl); (case hr => first | (go_simp; done) | (go_simp; rfl)); intro gb105 hg w3 hbox hb; have n0_ := Aside0.mk (below_step (by repeat (first | (with_reducible first | exact HB.out | apply below_alloc | apply pw_below_drewN | apply below_drew1) | exact HB.out)) hb); have n1_ := Aside0.mk (hbox); have n2_ := Aside0.mk ((by rw [hg]; exact (below_size (by repeat (first | (with_reducible first | exact HB.out | apply below_alloc | apply pw_below_drewN | apply below_drew1) | exact HB.out))) : w.heap.size ≤ gb105)); have n3_ := Aside0.mk ((by rw [hg]; exact (below_size (by repeat (first | (with_reducible first | exact HB.out | apply below_alloc | apply pw_below_drewN | apply below_drew1) | exact HB.out))) : w.heap.size ≤ gb105)); clear HB; have HB := n0_; have BK105 := n1_; have GW105 := n2_; have GE105 := n3_; clear n0_ n1_ n2_ n3_; clear hb hbox hg))
  (try simp only [Act.put, List.setIfInBounds_toArray, List.set_cons_zero, List.set_cons_succ])
  go_cut [38] (fun v38 wc => ∃ (kq : Nat) (x38_1 : Bool), v38 = .bool x38_1 ∧ Aside0 (spec_OptOk.j0 kq x38_1 l0_0 l0_1 l0_2 a0_3 a0_4 a0_5 = some r) ∧ Aside0 (kq ≤ k) ∧ Aside0 (wc.heap[gb105]? = some (.cells #[(.slice A0_0 l0_0.length c0_0), (.slice A0_1 l0_1.length c0_1), (.slice A0_2 l0_2.length c0_2), .int .i64 a0_3, .int .i64 a0_4, .int .i64 a0_5] 65 (0, 0))) ∧ Aside0 (Below w.heap.size w wc))
  case first =>
    have H := HC2.out
    clear HC2
    by_cases c4 : (l0_0.length : Int) > 4096
    · rw [if_pos c4] at H
      have c4b0 : decide (4096 < (l0_0.length : Int)) = true := decide_eq_true c4
      have c4b1 : decide (4096 < l0_0.length) = true := decide_eq_true (by omega)
      clear c4
      (first | rw [c4b0] | (simp only [i64_w, i32_w]; rw [c4b0]) | skip)
      have H' := Aside0.mk H
      clear H
      have hcz5_0 : w3.cell? ⟨gb105, 0, none⟩ = some (.slice A0_0 l0_0.length c0_0) := (blk_cell BK105.out 0).trans rfl
      have hcz5_1 : w3.cell? ⟨gb105, 1, none⟩ = some (.slice A0_1 l0_1.length c0_1) := (blk_cell BK105.out 1).trans rfl
      have hcz5_2 : w3.cell? ⟨gb105, 2, none⟩ = some (.slice A0_2 l0_2.length c0_2) := (blk_cell BK105.out 2).trans rfl
      have hcz5_3 : w3.cell? ⟨gb105, 3, none⟩ = some (.int .i64 a0_3) := (blk_cell BK105.out 3).trans rfl
      have hcz5_4 : w3.cell? ⟨gb105, 4, none⟩ = some (.int .i64 a0_4) := (blk_cell BK105.out 4).trans rfl
      have hcz5_5 : w3.cell? ⟨gb105, 5, none⟩ = some (.int .i64 a0_5) := (blk_cell BK105.out 5).trans rfl
      have hfz5_0 := blk_frozen BK105.out 0
      have hfz5_1 := blk_frozen BK105.out 1
      have hfz5_2 := blk_frozen BK105.out 2
      have hfz5_3 := blk_frozen BK105.out 3
      have hfz5_4 := blk_frozen BK105.out 4
      have hfz5_5 := blk_frozen BK105.out 5
      go_wp2
      go_meet
      case rel => exact ⟨_, (true), (by first | rfl | (simp; done) | (simp [*]; done)), H', ⟨by first | omega | exact Nat.le_refl _⟩, ⟨by (with_reducible repeat (first | refine blk_drewN ?_ _ | refine blk_drew ?_ | refine blk_alloc ?_ _)); exact BK105.out⟩, ⟨by repeat (first | (with_reducible first | exact HB.out | apply below_alloc | apply pw_below_drewN | apply below_drew1 | refine below_set ?_ GE105.out) | exact HB.out)⟩⟩
    · rw [if_neg c4] at H
      have c4b0 : decide (4096 < (l0_0.length : Int)) = false := decide_eq_false c4
      have c4b1 : decide (4096 < l0_0.length) = false := decide_eq_false (by omega)
      clear c4
      (first | rw [c4b0] | (simp only [i64_w, i32_w]; rw [c4b0]) | skip)
      by_cases c6 : (l0_1.length : Int) = (l0_0.length : Int)
      · rw [if_pos c6] at H
        have c6b0 : ((l0_1.length : Int) == (l0_0.length : Int)) = true := beq_iff_eq.mpr c6
        have c6b1 : ((l0_1.length : Int) != (l0_0.length : Int)) = false := bne_eq_false_iff_eq.mpr c6
        have c6b2 : (l0_1.length == l0_0.length) = true := by first | simpa using c6 | (simp at c6 ⊢; omega)
        clear c6
        by_cases c7 : (l0_2.length : Int) = (l0_0.length : Int)
        · rw [if_pos c7] at H
          have c7b0 : ((l0_2.length : Int) == (l0_0.length : Int)) = true := beq_iff_eq.mpr c7
          have c7b1 : ((l0_2.length : Int) != (l0_0.length : Int)) = false := bne_eq_false_iff_eq.mpr c7
          have c7b2 : (l0_2.length == l0_0.length) = true := by first | simpa using c7 | (simp at c7 ⊢; omega)
          clear c7
          replace H := Option.bind_eq_some_iff.mp H
          obtain ⟨t106, A80, H⟩ := H
          replace H : (if t106 = true then ((spec_l5In.f a0_5 0 1000000).bind fun t107 => (spec_OptOk.j0 k (!t107) l0_0 l0_1 l0_2 a0_3 a0_4 a0_5)) else (spec_OptOk.j0 k true l0_0 l0_1 l0_2 a0_3 a0_4 a0_5)) = some r := H
          have A8 := Aside0.mk A80
          clear A80
          by_cases c9 : t106 = true
          · subst c9
            have H1 : ((spec_l5In.f a0_5 0 1000000).bind fun t107 => (spec_OptOk.j0 k (!t107) l0_0 l0_1 l0_2 a0_3 a0_4 a0_5)) = some r := by rw [if_pos rfl] at H; exact H
            clear H
            have H := H1
            clear H1
            replace H := Option.bind_eq_some_iff.mp H
            obtain ⟨t107, A100, H⟩ := H
            replace H : (spec_OptOk.j0 k (!t107) l0_0 l0_1 l0_2 a0_3 a0_4 a0_5) = some r := H
            have A10 := Aside0.mk A100
            clear A100
            have H' := Aside0.mk H
            clear H
            have hcz11_0 : w3.cell? ⟨gb105, 0, none⟩ = some (.slice A0_0 l0_0.length c0_0) := (blk_cell BK105.out 0).trans rfl
            have hcz11_1 : w3.cell? ⟨gb105, 1, none⟩ = some (.slice A0_1 l0_1.length c0_1) := (blk_cell BK105.out 1).trans rfl
            have hcz11_2 : w3.cell? ⟨gb105, 2, none⟩ = some (.slice A0_2 l0_2.length c0_2) := (blk_cell BK105.out 2).trans rfl
            have hcz11_3 : w3.cell? ⟨gb105, 3, none⟩ = some (.int .i64 a0_3) := (blk_cell BK105.out 3).trans rfl
            have hcz11_4 : w3.cell? ⟨gb105, 4, none⟩ = some (.int .i64 a0_4) := (blk_cell BK105.out 4).trans rfl
            have hcz11_5 : w3.cell? ⟨gb105, 5, none⟩ = some (.int .i64 a0_5) := (blk_cell BK105.out 5).trans rfl
            have hfz11_0 := blk_frozen BK105.out 0
            have hfz11_1 := blk_frozen BK105.out 1
            have hfz11_2 := blk_frozen BK105.out 2
            have hfz11_3 := blk_frozen BK105.out 3
            have hfz11_4 := blk_frozen BK105.out 4
            have hfz11_5 := blk_frozen BK105.out 5
            go_wp2_with (first | (go_at_call 76; (with_reducible refine (spec_l5In.calls a0_3 0 1000000 true _ A8.out).mono ?_); rintro e w' ⟨rfl, ⟨nd, rfl⟩⟩) | (go_at_call 76; (with_reducible refine (spec_l5In.calls a0_5 0 1000000 t107 _ A10.out).mono ?_); rintro e w' ⟨rfl, ⟨nd, rfl⟩⟩))
            go_meet
            case rel => exact ⟨_, (!t107), (by first | rfl | (simp; done) | (simp [*]; done)), H', ⟨by first | omega | exact Nat.le_refl _⟩, ⟨by (with_reducible repeat (first | refine blk_drewN ?_ _ | refine blk_drew ?_ | refine blk_alloc ?_ _)); exact BK105.out⟩, ⟨by repeat (first | (with_reducible first | exact HB.out | apply below_alloc | apply pw_below_drewN | apply below_drew1 | refine below_set ?_ GE105.out) | exact HB.out)⟩⟩
          · replace c9 := Bool.eq_false_iff.mpr c9
            subst c9
            have H1 : (spec_OptOk.j0 k true l0_0 l0_1 l0_2 a0_3 a0_4 a0_5) = some r := by rw [if_neg (show ¬ (false = true) by decide)] at H; exact H
            clear H
            have H := H1
            clear H1
            have H' := Aside0.mk H
            clear H
            have hcz12_0 : w3.cell? ⟨gb105, 0, none⟩ = some (.slice A0_0 l0_0.length c0_0) := (blk_cell BK105.out 0).trans rfl
            have hcz12_1 : w3.cell? ⟨gb105, 1, none⟩ = some (.slice A0_1 l0_1.length c0_1) := (blk_cell BK105.out 1).trans rfl
            have hcz12_2 : w3.cell? ⟨gb105, 2, none⟩ = some (.slice A0_2 l0_2.length c0_2) := (blk_cell BK105.out 2).trans rfl
            have hcz12_3 : w3.cell? ⟨gb105, 3, none⟩ = some (.int .i64 a0_3) := (blk_cell BK105.out 3).trans rfl
            have hcz12_4 : w3.cell? ⟨gb105, 4, none⟩ = some (.int .i64 a0_4) := (blk_cell BK105.out 4).trans rfl
            have hcz12_5 : w3.cell? ⟨gb105, 5, none⟩ = some (.int .i64 a0_5) := (blk_cell BK105.out 5).trans rfl
            have hfz12_0 := blk_frozen BK105.out 0
            have hfz12_1 := blk_frozen BK105.out 1
            have hfz12_2 := blk_frozen BK105.out 2
            have hfz12_3 := blk_frozen BK105.out 3
            have hfz12_4 := blk_frozen BK105.out 4
            have hfz12_5 := blk_frozen BK105.out 5
            go_wp2_with (first | (go_at_call 76; (with_reducible refine (spec_l5In.calls a0_3 0 1000000 false _ A8.out).mono ?_); rintro e w' ⟨rfl, ⟨nd, rfl⟩⟩))
            go_meet
            case rel => exact ⟨_, (true), (by first | rfl | (simp; done) | (simp [*]; done)), H', ⟨by first | omega | exact Nat.le_refl _⟩, ⟨by (with_reducible repeat (first | refine blk_drewN ?_ _ | refine blk_drew ?_ | refine blk_alloc ?_ _)); exact BK105.out⟩, ⟨by repeat (first | (with_reducible first | exact HB.out | apply below_alloc | apply pw_below_drewN | apply below_drew1 | refine below_set ?_ GE105.out) | exact HB.out)⟩⟩
        · rw [if_neg c7] at H
          have c7b0 : ((l0_2.length : Int) == (l0_0.length : Int)) = false := beq_eq_false_iff_ne.mpr c7
          have c7b1 : ((l0_2.length : Int) != (l0_0.length : Int)) = true := bne_iff_ne.mpr c7
          have c7b2 : (l0_2.length == l0_0.length) = false := by first | simpa using c7 | (simp at c7 ⊢; omega)
          have H' := Aside0.mk H
          clear H
          have hcz13_0 : w3.cell? ⟨gb105, 0, none⟩ = some (.slice A0_0 l0_0.length c0_0) := (blk_cell BK105.out 0).trans rfl
          have hcz13_1 : w3.cell? ⟨gb105, 1, none⟩ = some (.slice A0_1 l0_1.length c0_1) := (blk_cell BK105.out 1).trans rfl
          have hcz13_2 : w3.cell? ⟨gb105, 2, none⟩ = some (.slice A0_2 l0_2.length c0_2) := (blk_cell BK105.out 2).trans rfl
          have hcz13_3 : w3.cell? ⟨gb105, 3, none⟩ = some (.int .i64 a0_3) := (blk_cell BK105.out 3).trans rfl
          have hcz13_4 : w3.cell? ⟨gb105, 4, none⟩ = some (.int .i64 a0_4) := (blk_cell BK105.out 4).trans rfl
          have hcz13_5 : w3.cell? ⟨gb105, 5, none⟩ = some (.int .i64 a0_5) := (blk_cell BK105.out 5).trans rfl
          have hfz13_0 := blk_frozen BK105.out 0
          have hfz13_1 := blk_frozen BK105.out 1
          have hfz13_2 := blk_frozen BK105.out 2
          have hfz13_3 := blk_frozen BK105.out 3
          have hfz13_4 := blk_frozen BK105.out 4
          have hfz13_5 := blk_frozen BK105.out 5
          go_wp2
          go_meet
          case rel => exact ⟨_, (true), (by first | rfl | (simp; done) | (simp [*]; done)), H', ⟨by first | omega | exact Nat.le_refl _⟩, ⟨by (with_reducible repeat (first | refine blk_drewN ?_ _ | refine blk_drew ?_ | refine blk_alloc ?_ _)); exact BK105.out⟩, ⟨by repeat (first | (with_reducible first | exact HB.out | apply below_alloc | apply pw_below_drewN | apply below_drew1 | refine below_set ?_ GE105.out) | exact HB.out)⟩⟩
      · rw [if_neg c6] at H
        have c6b0 : ((l0_1.length : Int) == (l0_0.length : Int)) = false := beq_eq_false_iff_ne.mpr c6
        have c6b1 : ((l0_1.length : Int) != (l0_0.length : Int)) = true := bne_iff_ne.mpr c6
        have c6b2 : (l0_1.length == l0_0.length) = false := by first | simpa using c6 | (simp at c6 ⊢; omega)
        have H' := Aside0.mk H
        clear H
        have hcz14_0 : w3.cell? ⟨gb105, 0, none⟩ = some (.slice A0_0 l0_0.length c0_0) := (blk_cell BK105.out 0).trans rfl
        have hcz14_1 : w3.cell? ⟨gb105, 1, none⟩ = some (.slice A0_1 l0_1.length c0_1) := (blk_cell BK105.out 1).trans rfl
        have hcz14_2 : w3.cell? ⟨gb105, 2, none⟩ = some (.slice A0_2 l0_2.length c0_2) := (blk_cell BK105.out 2).trans rfl
        have hcz14_3 : w3.cell? ⟨gb105, 3, none⟩ = some (.int .i64 a0_3) := (blk_cell BK105.out 3).trans rfl
        have hcz14_4 : w3.cell? ⟨gb105, 4, none⟩ = some (.int .i64 a0_4) := (blk_cell BK105.out 4).trans rfl
        have hcz14_5 : w3.cell? ⟨gb105, 5, none⟩ = some (.int .i64 a0_5) := (blk_cell BK105.out 5).trans rfl
        have hfz14_0 := blk_frozen BK105.out 0
        have hfz14_1 := blk_frozen BK105.out 1
        have hfz14_2 := blk_frozen BK105.out 2
        have hfz14_3 := blk_frozen BK105.out 3
        have hfz14_4 := blk_frozen BK105.out 4
        have hfz14_5 := blk_frozen BK105.out 5
        go_wp2
        go_meet
        case rel => exact ⟨_, (true), (by first | rfl | (simp; done) | (simp [*]; done)), H', ⟨by first | omega | exact Nat.le_refl _⟩, ⟨by (with_reducible repeat (first | refine blk_drewN ?_ _ | refine blk_drew ?_ | refine blk_alloc ?_ _)); exact BK105.out⟩, ⟨by repeat (first | (with_reducible first | exact HB.out | apply below_alloc | apply pw_below_drewN | apply below_drew1 | refine below_set ?_ GE105.out) | exact HB.out)⟩⟩
  case rest =>
    clear HC2
    try clear p2
    try clear c4
    try clear c4b0
    try clear c4b1
    try clear c6
    try clear c6b0
    try clear c6b1
    try clear c6b2
    try clear c7
    try clear c7b0
    try clear c7b1
    try clear c7b2
    try clear c9
    try clear hcz11_0
    try clear hcz11_1
    try clear hcz11_2
    try clear hcz11_3
    try clear hcz11_4
    try clear hcz11_5
    try clear hcz12_0
    try clear hcz12_1
    try clear hcz12_2
    try clear hcz12_3
    try clear hcz12_4
    try clear hcz12_5
    try clear hcz13_0
    try clear hcz13_1
    try clear hcz13_2
    try clear hcz13_3
    try clear hcz13_4
    try clear hcz13_5
    try clear hcz14_0
    try clear hcz14_1
    try clear hcz14_2
    try clear hcz14_3
    try clear hcz14_4
    try clear hcz14_5
    try clear hcz5_0
    try clear hcz5_1
    try clear hcz5_2
    try clear hcz5_3
    try clear hcz5_4
    try clear hcz5_5
    try clear hfz11_0
    try clear hfz11_1
    try clear hfz11_2
    try clear hfz11_3
    try clear hfz11_4
    try clear hfz11_5
    try clear hfz12_0
    try clear hfz12_1
    try clear hfz12_2
    try clear hfz12_3
    try clear hfz12_4
    try clear hfz12_5
    try clear hfz13_0
    try clear hfz13_1
    try clear hfz13_2
    try clear hfz13_3
    try clear hfz13_4
    try clear hfz13_5
    try clear hfz14_0
    try clear hfz14_1
    try clear hfz14_2
    try clear hfz14_3
    try clear hfz14_4
    try clear hfz14_5
    try clear hfz5_0
    try clear hfz5_1
    try clear hfz5_2
    try clear hfz5_3
    try clear hfz5_4
    try clear hfz5_5
    obtain ⟨kq, x38_1, rfl, HA, HJ1, BK105, HB⟩ := hcut
    cases kq with
    | zero => exact absurd HA.out (by simp [spec_OptOk.j0])
    | succ kj1 =>
      have H := HA.out
      clear HA
      simp only [spec_OptOk.j0] at H
      by_cases c15 : x38_1 = true
      · subst c15
        have H1 : (some false) = some r := by rw [if_pos rfl] at H; exact H
        clear H
        have H := H1
        clear H1
        obtain rfl := Option.some.inj H
        go_wp2
        go_ret
        exact ⟨by first | rfl | (simp [errW_none, errW_some] <;> rfl) | (simp [*, errW_none, errW_some] <;> rfl), by repeat (first | (with_reducible first | exact HB.out | apply below_alloc | apply pw_below_drewN | apply below_drew1 | refine below_set ?_ GE105.out) | exact HB.out)⟩
      · replace c15 := Bool.eq_false_iff.mpr c15
        subst c15
        have H1 : (spec_OptOk.l0 kj1 0 l0_0 l0_1 l0_2 a0_3 a0_4 a0_5) = some r := by rw [if_neg (show ¬ (false = true) by decide)] at H; exact H
        clear H
        have H := H1
        clear H1
        have H' := Aside0.mk H
        clear H
        go_wp2
        go_loopg [3] kj1 (fun kq v3 w' => ∃ (x3_2 : Int), v3 = .int .i64 x3_2 ∧ Aside0 (spec_OptOk.l0 kq x3_2 l0_0 l0_1 l0_2 a0_3 a0_4 a0_5 = some r) ∧ Aside0 (kq ≤ kj1) ∧ Aside0 (w'.heap[gb105]? = some (.cells #[(.slice A0_0 l0_0.length c0_0), (.slice A0_1 l0_1.length c0_1), (.slice A0_2 l0_2.length c0_2), .int .i64 a0_3, .int .i64 a0_4, .int .i64 a0_5] 65 (0, 0))) ∧ Aside0 (Below w.heap.size w w'))
        case atStart => exact ⟨(0), (by first | rfl | (simp; done) | (simp [*]; done)), H', ⟨Nat.le_refl _⟩, ⟨by (with_reducible repeat (first | refine blk_drewN ?_ _ | refine blk_drew ?_ | refine blk_alloc ?_ _)); exact BK105.out⟩, ⟨by repeat (first | (with_reducible first | exact HB.out | apply below_alloc | apply pw_below_drewN | apply below_drew1 | refine below_set ?_ GE105.out) | exact HB.out)⟩⟩
        case round =>
          clear H'
          try clear c1
          try clear p2
          try clear c4
          try clear c4b0
          try clear c4b1
          try clear c6
          try clear c6b0
          try clear c6b1
          try clear c6b2
          try clear c7
          try clear c7b0
          try clear c7b1
          try clear c7b2
          try clear c9
          try clear c15
          try clear hcz11_0
          try clear hcz11_1
          try clear hcz11_2
          try clear hcz11_3
          try clear hcz11_4
          try clear hcz11_5
          try clear hcz12_0
          try clear hcz12_1
          try clear hcz12_2
          try clear hcz12_3
          try clear hcz12_4
          try clear hcz12_5
          try clear hcz13_0
          try clear hcz13_1
          try clear hcz13_2
          try clear hcz13_3
          try clear hcz13_4
          try clear hcz13_5
          try clear hcz14_0
          try clear hcz14_1
          try clear hcz14_2
          try clear hcz14_3
          try clear hcz14_4
          try clear hcz14_5
          try clear hcz5_0
          try clear hcz5_1
          try clear hcz5_2
          try clear hcz5_3
          try clear hcz5_4
          try clear hcz5_5
          try clear hfz11_0
          try clear hfz11_1
          try clear hfz11_2
          try clear hfz11_3
          try clear hfz11_4
          try clear hfz11_5
          try clear hfz12_0
          try clear hfz12_1
          try clear hfz12_2
          try clear hfz12_3
          try clear hfz12_4
          try clear hfz12_5
          try clear hfz13_0
          try clear hfz13_1
          try clear hfz13_2
          try clear hfz13_3
          try clear hfz13_4
          try clear hfz13_5
          try clear hfz14_0
          try clear hfz14_1
          try clear hfz14_2
          try clear hfz14_3
          try clear hfz14_4
          try clear hfz14_5
          try clear hfz5_0
          try clear hfz5_1
          try clear hfz5_2
          try clear hfz5_3
          try clear hfz5_4
          try clear hfz5_5
          try clear p2
          obtain ⟨x3_2, rfl, HA, HK2, BK105, HB⟩ := hrel
          cases gk with
          | zero => exact absurd HA.out (by simp [spec_OptOk.l0])
          | succ k2 =>
            have H := HA.out
            clear HA
            simp only [spec_OptOk.l0] at H
            by_cases c16 : x3_2 < (l0_0.length : Int)
            · rw [if_pos c16] at H
              have c16b0 : decide (x3_2 < (l0_0.length : Int)) = true := decide_eq_true c16
              clear c16
              by_cases c17 : 0 ≤ x3_2
              · rw [if_pos c17] at H
                have c17b0 : decide (0 ≤ x3_2) = true := decide_eq_true c17
                clear c17
                replace H := Option.bind_eq_some_iff.mp H
                obtain ⟨t109, A180, H⟩ := H
                replace H : (if t109 = true then (if x3_2 < (l0_1.length : Int) then ((spec_l5In.f (rd l0_1 x3_2) (-4294967296) 4294967296).bind fun t111 => (if t111 = true then (if x3_2 < (l0_2.length : Int) then ((spec_l5In.f (rd l0_2 x3_2) 0 17179869184).bind fun t113 => (if t113 = true then (spec_OptOk.l0 k2 (wrap64 (x3_2 + 1)) l0_0 l0_1 l0_2 a0_3 a0_4 a0_5) else (some false))) else (none)) else (some false))) else (none)) else (some false)) = some r := H
                have A18 := Aside0.mk A180
                clear A180
                by_cases c19 : t109 = true
                · subst c19
                  have H1 : (if x3_2 < (l0_1.length : Int) then ((spec_l5In.f (rd l0_1 x3_2) (-4294967296) 4294967296).bind fun t111 => (if t111 = true then (if x3_2 < (l0_2.length : Int) then ((spec_l5In.f (rd l0_2 x3_2) 0 17179869184).bind fun t113 => (if t113 = true then (spec_OptOk.l0 k2 (wrap64 (x3_2 + 1)) l0_0 l0_1 l0_2 a0_3 a0_4 a0_5) else (some false))) else (none)) else (some false))) else (none)) = some r := by rw [if_pos rfl] at H; exact H
                  clear H
                  have H := H1
                  clear H1
                  by_cases c20 : x3_2 < (l0_1.length : Int)
                  · rw [if_pos c20] at H
                    have c20b0 : decide (x3_2 < (l0_1.length : Int)) = true := decide_eq_true c20
                    clear c20
                    replace H := Option.bind_eq_some_iff.mp H
                    obtain ⟨t111, A210, H⟩ := H
                    replace H : (if t111 = true then (if x3_2 < (l0_2.length : Int) then ((spec_l5In.f (rd l0_2 x3_2) 0 17179869184).bind fun t113 => (if t113 = true then (spec_OptOk.l0 k2 (wrap64 (x3_2 + 1)) l0_0 l0_1 l0_2 a0_3 a0_4 a0_5) else (some false))) else (none)) else (some false)) = some r := H
                    have A21 := Aside0.mk A210
                    clear A210
                    by_cases c22 : t111 = true
                    · subst c22
                      have H1 : (if x3_2 < (l0_2.length : Int) then ((spec_l5In.f (rd l0_2 x3_2) 0 17179869184).bind fun t113 => (if t113 = true then (spec_OptOk.l0 k2 (wrap64 (x3_2 + 1)) l0_0 l0_1 l0_2 a0_3 a0_4 a0_5) else (some false))) else (none)) = some r := by rw [if_pos rfl] at H; exact H
                      clear H
                      have H := H1
                      clear H1
                      by_cases c23 : x3_2 < (l0_2.length : Int)
                      · rw [if_pos c23] at H
                        have c23b0 : decide (x3_2 < (l0_2.length : Int)) = true := decide_eq_true c23
                        clear c23
                        replace H := Option.bind_eq_some_iff.mp H
                        obtain ⟨t113, A240, H⟩ := H
                        replace H : (if t113 = true then (spec_OptOk.l0 k2 (wrap64 (x3_2 + 1)) l0_0 l0_1 l0_2 a0_3 a0_4 a0_5) else (some false)) = some r := H
                        have A24 := Aside0.mk A240
                        clear A240
                        by_cases c25 : t113 = true
                        · subst c25
                          have H1 : (spec_OptOk.l0 k2 (wrap64 (x3_2 + 1)) l0_0 l0_1 l0_2 a0_3 a0_4 a0_5) = some r := by rw [if_pos rfl] at H; exact H
                          clear H
                          have H := H1
                          clear H1
                          have H' := Aside0.mk H
                          clear H
                          have hcz26_0 : wr.cell? ⟨gb105, 0, none⟩ = some (.slice A0_0 l0_0.length c0_0) := (blk_cell BK105.out 0).trans rfl
                          have hcz26_1 : wr.cell? ⟨gb105, 1, none⟩ = some (.slice A0_1 l0_1.length c0_1) := (blk_cell BK105.out 1).trans rfl
                          have hcz26_2 : wr.cell? ⟨gb105, 2, none⟩ = some (.slice A0_2 l0_2.length c0_2) := (blk_cell BK105.out 2).trans rfl
                          have hcz26_3 : wr.cell? ⟨gb105, 3, none⟩ = some (.int .i64 a0_3) := (blk_cell BK105.out 3).trans rfl
                          have hcz26_4 : wr.cell? ⟨gb105, 4, none⟩ = some (.int .i64 a0_4) := (blk_cell BK105.out 4).trans rfl
                          have hcz26_5 : wr.cell? ⟨gb105, 5, none⟩ = some (.int .i64 a0_5) := (blk_cell BK105.out 5).trans rfl
                          have hfz26_0 := blk_frozen BK105.out 0
                          have hfz26_1 := blk_frozen BK105.out 1
                          have hfz26_2 := blk_frozen BK105.out 2
                          have hfz26_3 := blk_frozen BK105.out 3
                          have hfz26_4 := blk_frozen BK105.out 4
                          have hfz26_5 := blk_frozen BK105.out 5
                          have p108 : 0 ≤ (x3_2 : Int) := of_decide_eq_true (by first | (with_reducible assumption) | assumption)
                          have q108 : x3_2 < (l0_0.length : Int) := of_decide_eq_true (by first | (with_reducible assumption) | assumption)
                          obtain ⟨ad108, e108, hx108_0⟩ := Kd.at_int HR0_0.out x3_2 p108 q108
                          cases e108
                          replace hx108_0 := (HB.out.cell (World.block_lt_of_cell? w _ hx108_0)).trans hx108_0
                          replace p108 := eq_true p108
                          replace q108 := eq_true q108
                          go_wp2_with (first | ((with_reducible refine gate_callee (f := 76) rfl ?_); refine goesL_ (some 51) rfl rfl Try.func76 (by kernel_rfl) rfl #[.int .i64 (rd l0_0 x3_2), .int .i64 (-68719476736), .int .i64 68719476736] rfl (by (try simp only [List.map_toArray, List.map_cons, List.map_nil]); first | done | rfl | (simp only [List.length_drop, List.length_take]; rfl)) ?_; (with_reducible refine (spec_l5In.calls (rd l0_0 x3_2) (-68719476736) 68719476736 true _ A18.out).mono ?_); rintro e w' ⟨rfl, ⟨nd, rfl⟩⟩; refine ⟨_, rfl, ?_⟩; have p110 : 0 ≤ (x3_2 : Int) := of_decide_eq_true (by first | (with_reducible assumption) | assumption); have q110 : x3_2 < (l0_1.length : Int) := of_decide_eq_true (by first | (with_reducible assumption) | assumption); obtain ⟨ad110, e110, hx110_0⟩ := Kd.at_int HR0_1.out x3_2 p110 q110; cases e110; replace hx110_0 := (HB.out.cell (World.block_lt_of_cell? w _ hx110_0)).trans hx110_0; replace p110 := eq_true p110; replace q110 := eq_true q110) | (go_at_call 76; (with_reducible refine (spec_l5In.calls (rd l0_1 x3_2) (-4294967296) 4294967296 true _ A21.out).mono ?_); rintro e w' ⟨rfl, ⟨nd, rfl⟩⟩; have p112 : 0 ≤ (x3_2 : Int) := of_decide_eq_true (by first | (with_reducible assumption) | assumption); have q112 : x3_2 < (l0_2.length : Int) := of_decide_eq_true (by first | (with_reducible assumption) | assumption); obtain ⟨ad112, e112, hx112_0⟩ := Kd.at_int HR0_2.out x3_2 p112 q112; cases e112; replace hx112_0 := (HB.out.cell (World.block_lt_of_cell? w _ hx112_0)).trans hx112_0; replace p112 := eq_true p112; replace q112 := eq_true q112) | (go_at_call 76; (with_reducible refine (spec_l5In.calls (rd l0_2 x3_2) 0 17179869184 true _ A24.out).mono ?_); rintro e w' ⟨rfl, ⟨nd, rfl⟩⟩))
                          go_roundg k2
                          case measure => have := HJ1.out; have := HK2.out; omega
                          case rel => exact ⟨(wrap64 (x3_2 + 1)), (by first | rfl | (simp; done) | (simp [*]; done)), H', ⟨by have := HJ1.out; have := HK2.out; omega⟩, ⟨by (with_reducible repeat (first | refine blk_drewN ?_ _ | refine blk_drew ?_ | refine blk_alloc ?_ _)); exact BK105.out⟩, ⟨by repeat (first | (with_reducible first | exact HB.out | apply below_alloc | apply pw_below_drewN | apply below_drew1 | refine below_set ?_ GE105.out) | exact HB.out)⟩⟩
                        · replace c25 := Bool.eq_false_iff.mpr c25
                          subst c25
                          have H1 : (some false) = some r := by rw [if_neg (show ¬ (false = true) by decide)] at H; exact H
                          clear H
                          have H := H1
                          clear H1
                          obtain rfl := Option.some.inj H
                          have hcz27_0 : wr.cell? ⟨gb105, 0, none⟩ = some (.slice A0_0 l0_0.length c0_0) := (blk_cell BK105.out 0).trans rfl
                          have hcz27_1 : wr.cell? ⟨gb105, 1, none⟩ = some (.slice A0_1 l0_1.length c0_1) := (blk_cell BK105.out 1).trans rfl
                          have hcz27_2 : wr.cell? ⟨gb105, 2, none⟩ = some (.slice A0_2 l0_2.length c0_2) := (blk_cell BK105.out 2).trans rfl
                          have hcz27_3 : wr.cell? ⟨gb105, 3, none⟩ = some (.int .i64 a0_3) := (blk_cell BK105.out 3).trans rfl
                          have hcz27_4 : wr.cell? ⟨gb105, 4, none⟩ = some (.int .i64 a0_4) := (blk_cell BK105.out 4).trans rfl
                          have hcz27_5 : wr.cell? ⟨gb105, 5, none⟩ = some (.int .i64 a0_5) := (blk_cell BK105.out 5).trans rfl
                          have hfz27_0 := blk_frozen BK105.out 0
                          have hfz27_1 := blk_frozen BK105.out 1
                          have hfz27_2 := blk_frozen BK105.out 2
                          have hfz27_3 := blk_frozen BK105.out 3
                          have hfz27_4 := blk_frozen BK105.out 4
                          have hfz27_5 := blk_frozen BK105.out 5
                          have p108 : 0 ≤ (x3_2 : Int) := of_decide_eq_true (by first | (with_reducible assumption) | assumption)
                          have q108 : x3_2 < (l0_0.length : Int) := of_decide_eq_true (by first | (with_reducible assumption) | assumption)
                          obtain ⟨ad108, e108, hx108_0⟩ := Kd.at_int HR0_0.out x3_2 p108 q108
                          cases e108
                          replace hx108_0 := (HB.out.cell (World.block_lt_of_cell? w _ hx108_0)).trans hx108_0
                          replace p108 := eq_true p108
                          replace q108 := eq_true q108
                          go_wp2_with (first | ((with_reducible refine gate_callee (f := 76) rfl ?_); refine goesL_ (some 51) rfl rfl Try.func76 (by kernel_rfl) rfl #[.int .i64 (rd l0_0 x3_2), .int .i64 (-68719476736), .int .i64 68719476736] rfl (by (try simp only [List.map_toArray, List.map_cons, List.map_nil]); first | done | rfl | (simp only [List.length_drop, List.length_take]; rfl)) ?_; (with_reducible refine (spec_l5In.calls (rd l0_0 x3_2) (-68719476736) 68719476736 true _ A18.out).mono ?_); rintro e w' ⟨rfl, ⟨nd, rfl⟩⟩; refine ⟨_, rfl, ?_⟩; have p110 : 0 ≤ (x3_2 : Int) := of_decide_eq_true (by first | (with_reducible assumption) | assumption); have q110 : x3_2 < (l0_1.length : Int) := of_decide_eq_true (by first | (with_reducible assumption) | assumption); obtain ⟨ad110, e110, hx110_0⟩ := Kd.at_int HR0_1.out x3_2 p110 q110; cases e110; replace hx110_0 := (HB.out.cell (World.block_lt_of_cell? w _ hx110_0)).trans hx110_0; replace p110 := eq_true p110; replace q110 := eq_true q110) | (go_at_call 76; (with_reducible refine (spec_l5In.calls (rd l0_1 x3_2) (-4294967296) 4294967296 true _ A21.out).mono ?_); rintro e w' ⟨rfl, ⟨nd, rfl⟩⟩; have p112 : 0 ≤ (x3_2 : Int) := of_decide_eq_true (by first | (with_reducible assumption) | assumption); have q112 : x3_2 < (l0_2.length : Int) := of_decide_eq_true (by first | (with_reducible assumption) | assumption); obtain ⟨ad112, e112, hx112_0⟩ := Kd.at_int HR0_2.out x3_2 p112 q112; cases e112; replace hx112_0 := (HB.out.cell (World.block_lt_of_cell? w _ hx112_0)).trans hx112_0; replace p112 := eq_true p112; replace q112 := eq_true q112) | (go_at_call 76; (with_reducible refine (spec_l5In.calls (rd l0_2 x3_2) 0 17179869184 false _ A24.out).mono ?_); rintro e w' ⟨rfl, ⟨nd, rfl⟩⟩))
                          go_ret
                          exact ⟨by first | rfl | (simp [errW_none, errW_some] <;> rfl) | (simp [*, errW_none, errW_some] <;> rfl), by repeat (first | (with_reducible first | exact HB.out | apply below_alloc | apply pw_below_drewN | apply below_drew1 | refine below_set ?_ GE105.out) | exact HB.out)⟩
                      · rw [if_neg c23] at H
                        exact absurd H (by simp)
                    · replace c22 := Bool.eq_false_iff.mpr c22
                      subst c22
                      have H1 : (some false) = some r := by rw [if_neg (show ¬ (false = true) by decide)] at H; exact H
                      clear H
                      have H := H1
                      clear H1
                      obtain rfl := Option.some.inj H
                      have hcz28_0 : wr.cell? ⟨gb105, 0, none⟩ = some (.slice A0_0 l0_0.length c0_0) := (blk_cell BK105.out 0).trans rfl
                      have hcz28_1 : wr.cell? ⟨gb105, 1, none⟩ = some (.slice A0_1 l0_1.length c0_1) := (blk_cell BK105.out 1).trans rfl
                      have hcz28_2 : wr.cell? ⟨gb105, 2, none⟩ = some (.slice A0_2 l0_2.length c0_2) := (blk_cell BK105.out 2).trans rfl
                      have hcz28_3 : wr.cell? ⟨gb105, 3, none⟩ = some (.int .i64 a0_3) := (blk_cell BK105.out 3).trans rfl
                      have hcz28_4 : wr.cell? ⟨gb105, 4, none⟩ = some (.int .i64 a0_4) := (blk_cell BK105.out 4).trans rfl
                      have hcz28_5 : wr.cell? ⟨gb105, 5, none⟩ = some (.int .i64 a0_5) := (blk_cell BK105.out 5).trans rfl
                      have hfz28_0 := blk_frozen BK105.out 0
                      have hfz28_1 := blk_frozen BK105.out 1
                      have hfz28_2 := blk_frozen BK105.out 2
                      have hfz28_3 := blk_frozen BK105.out 3
                      have hfz28_4 := blk_frozen BK105.out 4
                      have hfz28_5 := blk_frozen BK105.out 5
                      have p108 : 0 ≤ (x3_2 : Int) := of_decide_eq_true (by first | (with_reducible assumption) | assumption)
                      have q108 : x3_2 < (l0_0.length : Int) := of_decide_eq_true (by first | (with_reducible assumption) | assumption)
                      obtain ⟨ad108, e108, hx108_0⟩ := Kd.at_int HR0_0.out x3_2 p108 q108
                      cases e108
                      replace hx108_0 := (HB.out.cell (World.block_lt_of_cell? w _ hx108_0)).trans hx108_0
                      replace p108 := eq_true p108
                      replace q108 := eq_true q108
                      go_wp2_with (first | ((with_reducible refine gate_callee (f := 76) rfl ?_); refine goesL_ (some 51) rfl rfl Try.func76 (by kernel_rfl) rfl #[.int .i64 (rd l0_0 x3_2), .int .i64 (-68719476736), .int .i64 68719476736] rfl (by (try simp only [List.map_toArray, List.map_cons, List.map_nil]); first | done | rfl | (simp only [List.length_drop, List.length_take]; rfl)) ?_; (with_reducible refine (spec_l5In.calls (rd l0_0 x3_2) (-68719476736) 68719476736 true _ A18.out).mono ?_); rintro e w' ⟨rfl, ⟨nd, rfl⟩⟩; refine ⟨_, rfl, ?_⟩; have p110 : 0 ≤ (x3_2 : Int) := of_decide_eq_true (by first | (with_reducible assumption) | assumption); have q110 : x3_2 < (l0_1.length : Int) := of_decide_eq_true (by first | (with_reducible assumption) | assumption); obtain ⟨ad110, e110, hx110_0⟩ := Kd.at_int HR0_1.out x3_2 p110 q110; cases e110; replace hx110_0 := (HB.out.cell (World.block_lt_of_cell? w _ hx110_0)).trans hx110_0; replace p110 := eq_true p110; replace q110 := eq_true q110) | (go_at_call 76; (with_reducible refine (spec_l5In.calls (rd l0_1 x3_2) (-4294967296) 4294967296 false _ A21.out).mono ?_); rintro e w' ⟨rfl, ⟨nd, rfl⟩⟩))
                      go_ret
                      exact ⟨by first | rfl | (simp [errW_none, errW_some] <;> rfl) | (simp [*, errW_none, errW_some] <;> rfl), by repeat (first | (with_reducible first | exact HB.out | apply below_alloc | apply pw_below_drewN | apply below_drew1 | refine below_set ?_ GE105.out) | exact HB.out)⟩
                  · rw [if_neg c20] at H
                    exact absurd H (by simp)
                · replace c19 := Bool.eq_false_iff.mpr c19
                  subst c19
                  have H1 : (some false) = some r := by rw [if_neg (show ¬ (false = true) by decide)] at H; exact H
                  clear H
                  have H := H1
                  clear H1
                  obtain rfl := Option.some.inj H
                  have hcz29_0 : wr.cell? ⟨gb105, 0, none⟩ = some (.slice A0_0 l0_0.length c0_0) := (blk_cell BK105.out 0).trans rfl
                  have hcz29_1 : wr.cell? ⟨gb105, 1, none⟩ = some (.slice A0_1 l0_1.length c0_1) := (blk_cell BK105.out 1).trans rfl
                  have hcz29_2 : wr.cell? ⟨gb105, 2, none⟩ = some (.slice A0_2 l0_2.length c0_2) := (blk_cell BK105.out 2).trans rfl
                  have hcz29_3 : wr.cell? ⟨gb105, 3, none⟩ = some (.int .i64 a0_3) := (blk_cell BK105.out 3).trans rfl
                  have hcz29_4 : wr.cell? ⟨gb105, 4, none⟩ = some (.int .i64 a0_4) := (blk_cell BK105.out 4).trans rfl
                  have hcz29_5 : wr.cell? ⟨gb105, 5, none⟩ = some (.int .i64 a0_5) := (blk_cell BK105.out 5).trans rfl
                  have hfz29_0 := blk_frozen BK105.out 0
                  have hfz29_1 := blk_frozen BK105.out 1
                  have hfz29_2 := blk_frozen BK105.out 2
                  have hfz29_3 := blk_frozen BK105.out 3
                  have hfz29_4 := blk_frozen BK105.out 4
                  have hfz29_5 := blk_frozen BK105.out 5
                  have p108 : 0 ≤ (x3_2 : Int) := of_decide_eq_true (by first | (with_reducible assumption) | assumption)
                  have q108 : x3_2 < (l0_0.length : Int) := of_decide_eq_true (by first | (with_reducible assumption) | assumption)
                  obtain ⟨ad108, e108, hx108_0⟩ := Kd.at_int HR0_0.out x3_2 p108 q108
                  cases e108
                  replace hx108_0 := (HB.out.cell (World.block_lt_of_cell? w _ hx108_0)).trans hx108_0
                  replace p108 := eq_true p108
                  replace q108 := eq_true q108
                  go_wp2_with (first | ((with_reducible refine gate_callee (f := 76) rfl ?_); refine goesL_ (some 51) rfl rfl Try.func76 (by kernel_rfl) rfl #[.int .i64 (rd l0_0 x3_2), .int .i64 (-68719476736), .int .i64 68719476736] rfl (by (try simp only [List.map_toArray, List.map_cons, List.map_nil]); first | done | rfl | (simp only [List.length_drop, List.length_take]; rfl)) ?_; (with_reducible refine (spec_l5In.calls (rd l0_0 x3_2) (-68719476736) 68719476736 false _ A18.out).mono ?_); rintro e w' ⟨rfl, ⟨nd, rfl⟩⟩; refine ⟨_, rfl, ?_⟩))
                  go_ret
                  exact ⟨by first | rfl | (simp [errW_none, errW_some] <;> rfl) | (simp [*, errW_none, errW_some] <;> rfl), by repeat (first | (with_reducible first | exact HB.out | apply below_alloc | apply pw_below_drewN | apply below_drew1 | refine below_set ?_ GE105.out) | exact HB.out)⟩
              · rw [if_neg c17] at H
                exact absurd H (by simp)
            · rw [if_neg c16] at H
              have c16b0 : decide (x3_2 < (l0_0.length : Int)) = false := decide_eq_false c16
              clear c16
              have H' := Aside0.mk H
              clear H
              have hcz30_0 : wr.cell? ⟨gb105, 0, none⟩ = some (.slice A0_0 l0_0.length c0_0) := (blk_cell BK105.out 0).trans rfl
              have hcz30_1 : wr.cell? ⟨gb105, 1, none⟩ = some (.slice A0_1 l0_1.length c0_1) := (blk_cell BK105.out 1).trans rfl
              have hcz30_2 : wr.cell? ⟨gb105, 2, none⟩ = some (.slice A0_2 l0_2.length c0_2) := (blk_cell BK105.out 2).trans rfl
              have hcz30_3 : wr.cell? ⟨gb105, 3, none⟩ = some (.int .i64 a0_3) := (blk_cell BK105.out 3).trans rfl
              have hcz30_4 : wr.cell? ⟨gb105, 4, none⟩ = some (.int .i64 a0_4) := (blk_cell BK105.out 4).trans rfl
              have hcz30_5 : wr.cell? ⟨gb105, 5, none⟩ = some (.int .i64 a0_5) := (blk_cell BK105.out 5).trans rfl
              have hfz30_0 := blk_frozen BK105.out 0
              have hfz30_1 := blk_frozen BK105.out 1
              have hfz30_2 := blk_frozen BK105.out 2
              have hfz30_3 := blk_frozen BK105.out 3
              have hfz30_4 := blk_frozen BK105.out 4
              have hfz30_5 := blk_frozen BK105.out 5
              go_wp2
              go_loopg [4] k2 (fun kq v4 w' => ∃ (x4_3 : Int), v4 = .int .i64 x4_3 ∧ Aside0 (spec_OptOk.l1 kq x4_3 l0_0 l0_1 l0_2 a0_3 a0_4 a0_5 = some r) ∧ Aside0 (kq ≤ k2) ∧ Aside0 (w'.heap[gb105]? = some (.cells #[(.slice A0_0 l0_0.length c0_0), (.slice A0_1 l0_1.length c0_1), (.slice A0_2 l0_2.length c0_2), .int .i64 a0_3, .int .i64 a0_4, .int .i64 a0_5] 65 (0, 0))) ∧ Aside0 (Below w.heap.size w w'))
              case atStart => exact ⟨(1), (by first | rfl | (simp; done) | (simp [*]; done)), H', ⟨Nat.le_refl _⟩, ⟨by (with_reducible repeat (first | refine blk_drewN ?_ _ | refine blk_drew ?_ | refine blk_alloc ?_ _)); exact BK105.out⟩, ⟨by repeat (first | (with_reducible first | exact HB.out | apply below_alloc | apply pw_below_drewN | apply below_drew1 | refine below_set ?_ GE105.out) | exact HB.out)⟩⟩
              case round =>
                clear H'
                try clear c1
                try clear p1
                try clear q1
                try clear hx1
                try clear c2
                try clear p2
                try clear c4
                try clear c4b0
                try clear c4b1
                try clear c6
                try clear c6b0
                try clear c6b1
                try clear c6b2
                try clear p6
                try clear c7
                try clear c7b0
                try clear c7b1
                try clear c7b2
                try clear c9
                try clear p10
                try clear q10
                try clear hx10
                try clear p11
                try clear q11
                try clear hx11
                try clear c15
                try clear c16
                try clear c16b0
                try clear c17
                try clear c17b0
                try clear c19
                try clear c20
                try clear c20b0
                try clear c22
                try clear c23
                try clear c23b0
                try clear c25
                try clear hcz11_0
                try clear hcz11_1
                try clear hcz11_2
                try clear hcz11_3
                try clear hcz11_4
                try clear hcz11_5
                try clear hcz12_0
                try clear hcz12_1
                try clear hcz12_2
                try clear hcz12_3
                try clear hcz12_4
                try clear hcz12_5
                try clear hcz13_0
                try clear hcz13_1
                try clear hcz13_2
                try clear hcz13_3
                try clear hcz13_4
                try clear hcz13_5
                try clear hcz14_0
                try clear hcz14_1
                try clear hcz14_2
                try clear hcz14_3
                try clear hcz14_4
                try clear hcz14_5
                try clear hcz26_0
                try clear hcz26_1
                try clear hcz26_2
                try clear hcz26_3
                try clear hcz26_4
                try clear hcz26_5
                try clear hcz27_0
                try clear hcz27_1
                try clear hcz27_2
                try clear hcz27_3
                try clear hcz27_4
                try clear hcz27_5
                try clear hcz28_0
                try clear hcz28_1
                try clear hcz28_2
                try clear hcz28_3
                try clear hcz28_4
                try clear hcz28_5
                try clear hcz29_0
                try clear hcz29_1
                try clear hcz29_2
                try clear hcz29_3
                try clear hcz29_4
                try clear hcz29_5
                try clear hcz30_0
                try clear hcz30_1
                try clear hcz30_2
                try clear hcz30_3
                try clear hcz30_4
                try clear hcz30_5
                try clear hcz5_0
                try clear hcz5_1
                try clear hcz5_2
                try clear hcz5_3
                try clear hcz5_4
                try clear hcz5_5
                try clear hfz11_0
                try clear hfz11_1
                try clear hfz11_2
                try clear hfz11_3
                try clear hfz11_4
                try clear hfz11_5
                try clear hfz12_0
                try clear hfz12_1
                try clear hfz12_2
                try clear hfz12_3
                try clear hfz12_4
                try clear hfz12_5
                try clear hfz13_0
                try clear hfz13_1
                try clear hfz13_2
                try clear hfz13_3
                try clear hfz13_4
                try clear hfz13_5
                try clear hfz14_0
                try clear hfz14_1
                try clear hfz14_2
                try clear hfz14_3
                try clear hfz14_4
                try clear hfz14_5
                try clear hfz26_0
                try clear hfz26_1
                try clear hfz26_2
                try clear hfz26_3
                try clear hfz26_4
                try clear hfz26_5
                try clear hfz27_0
                try clear hfz27_1
                try clear hfz27_2
                try clear hfz27_3
                try clear hfz27_4
                try clear hfz27_5
                try clear hfz28_0
                try clear hfz28_1
                try clear hfz28_2
                try clear hfz28_3
                try clear hfz28_4
                try clear hfz28_5
                try clear hfz29_0
                try clear hfz29_1
                try clear hfz29_2
                try clear hfz29_3
                try clear hfz29_4
                try clear hfz29_5
                try clear hfz30_0
                try clear hfz30_1
                try clear hfz30_2
                try clear hfz30_3
                try clear hfz30_4
                try clear hfz30_5
                try clear hfz5_0
                try clear hfz5_1
                try clear hfz5_2
                try clear hfz5_3
                try clear hfz5_4
                try clear hfz5_5
                try clear hx108_0
                try clear hx110_0
                try clear hx112_0
                try clear p108
                try clear p110
                try clear p112
                try clear p2
                try clear q108
                try clear q110
                try clear q112
                obtain ⟨x4_3, rfl, HA, HK3, BK105, HB⟩ := hrel
                cases gk with
                | zero => exact absurd HA.out (by simp [spec_OptOk.l1])
                | succ k3 =>
                  have H := HA.out
                  clear HA
                  simp only [spec_OptOk.l1] at H
                  by_cases c31 : x4_3 ≤ 65536
                  · rw [if_pos c31] at H
                    have c31b0 : decide (x4_3 ≤ 65536) = true := decide_eq_true c31
                    clear c31
                    by_cases c32 : x4_3 = a0_4
                    · rw [if_pos c32] at H
                      have c32b0 : (x4_3 == a0_4) = true := beq_iff_eq.mpr c32
                      have c32b1 : (x4_3 != a0_4) = false := bne_eq_false_iff_eq.mpr c32
                      clear c32
                      obtain rfl := Option.some.inj H
                      have hcz33_0 : wr.cell? ⟨gb105, 0, none⟩ = some (.slice A0_0 l0_0.length c0_0) := (blk_cell BK105.out 0).trans rfl
                      have hcz33_1 : wr.cell? ⟨gb105, 1, none⟩ = some (.slice A0_1 l0_1.length c0_1) := (blk_cell BK105.out 1).trans rfl
                      have hcz33_2 : wr.cell? ⟨gb105, 2, none⟩ = some (.slice A0_2 l0_2.length c0_2) := (blk_cell BK105.out 2).trans rfl
                      have hcz33_3 : wr.cell? ⟨gb105, 3, none⟩ = some (.int .i64 a0_3) := (blk_cell BK105.out 3).trans rfl
                      have hcz33_4 : wr.cell? ⟨gb105, 4, none⟩ = some (.int .i64 a0_4) := (blk_cell BK105.out 4).trans rfl
                      have hcz33_5 : wr.cell? ⟨gb105, 5, none⟩ = some (.int .i64 a0_5) := (blk_cell BK105.out 5).trans rfl
                      have hfz33_0 := blk_frozen BK105.out 0
                      have hfz33_1 := blk_frozen BK105.out 1
                      have hfz33_2 := blk_frozen BK105.out 2
                      have hfz33_3 := blk_frozen BK105.out 3
                      have hfz33_4 := blk_frozen BK105.out 4
                      have hfz33_5 := blk_frozen BK105.out 5
                      go_wp2
                      go_ret
                      exact ⟨by first | rfl | (simp [errW_none, errW_some] <;> rfl) | (simp [*, errW_none, errW_some] <;> rfl), by repeat (first | (with_reducible first | exact HB.out | apply below_alloc | apply pw_below_drewN | apply below_drew1 | refine below_set ?_ GE105.out) | exact HB.out)⟩
                    · rw [if_neg c32] at H
                      have c32b0 : (x4_3 == a0_4) = false := beq_eq_false_iff_ne.mpr c32
                      have c32b1 : (x4_3 != a0_4) = true := bne_iff_ne.mpr c32
                      have H' := Aside0.mk H
                      clear H
                      have hcz34_0 : wr.cell? ⟨gb105, 0, none⟩ = some (.slice A0_0 l0_0.length c0_0) := (blk_cell BK105.out 0).trans rfl
                      have hcz34_1 : wr.cell? ⟨gb105, 1, none⟩ = some (.slice A0_1 l0_1.length c0_1) := (blk_cell BK105.out 1).trans rfl
                      have hcz34_2 : wr.cell? ⟨gb105, 2, none⟩ = some (.slice A0_2 l0_2.length c0_2) := (blk_cell BK105.out 2).trans rfl
                      have hcz34_3 : wr.cell? ⟨gb105, 3, none⟩ = some (.int .i64 a0_3) := (blk_cell BK105.out 3).trans rfl
                      have hcz34_4 : wr.cell? ⟨gb105, 4, none⟩ = some (.int .i64 a0_4) := (blk_cell BK105.out 4).trans rfl
                      have hcz34_5 : wr.cell? ⟨gb105, 5, none⟩ = some (.int .i64 a0_5) := (blk_cell BK105.out 5).trans rfl
                      have hfz34_0 := blk_frozen BK105.out 0
                      have hfz34_1 := blk_frozen BK105.out 1
                      have hfz34_2 := blk_frozen BK105.out 2
                      have hfz34_3 := blk_frozen BK105.out 3
                      have hfz34_4 := blk_frozen BK105.out 4
                      have hfz34_5 := blk_frozen BK105.out 5
                      go_wp2
                      go_roundg k3
                      case measure => have := HJ1.out; have := HK2.out; have := HK3.out; omega
                      case rel => exact ⟨(wrap64 (x4_3 * 2)), (by first | rfl | (simp; done) | (simp [*]; done)), H', ⟨by have := HJ1.out; have := HK2.out; have := HK3.out; omega⟩, ⟨by (with_reducible repeat (first | refine blk_drewN ?_ _ | refine blk_drew ?_ | refine blk_alloc ?_ _)); exact BK105.out⟩, ⟨by repeat (first | (with_reducible first | exact HB.out | apply below_alloc | apply pw_below_drewN | apply below_drew1 | refine below_set ?_ GE105.out) | exact HB.out)⟩⟩
                  · rw [if_neg c31] at H
                    have c31b0 : decide (x4_3 ≤ 65536) = false := decide_eq_false c31
                    clear c31
                    obtain rfl := Option.some.inj H
                    go_wp2
                    go_ret
                    exact ⟨by first | rfl | (simp [errW_none, errW_some] <;> rfl) | (simp [*, errW_none, errW_some] <;> rfl), by repeat (first | (with_reducible first | exact HB.out | apply below_alloc | apply pw_below_drewN | apply below_drew1 | refine below_set ?_ GE105.out) | exact HB.out)⟩

end Go.Proofs.Ytbgpehoffkbgkaa.PFnExactOptOk
