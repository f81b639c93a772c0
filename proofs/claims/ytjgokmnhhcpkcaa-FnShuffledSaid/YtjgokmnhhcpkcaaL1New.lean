/- The statements' cursor (spec.l1New), walked: whatever the bytes, a fresh cursor. No condition. -/
import Derived.Test.YtjgokmnhhcpkcaaPl1Anyx1
import Derived.Test.YtjgokmnhhcpkcaaAid
namespace Go.Proofs.Ytjgokmnhhcpkcaa.L1New
open Go.RowKit Go.Proofs.Ytjgokmnhhcpkcaa.Aid Go.Proofs.Ytjgokmnhhcpkcaa.Pl1Any Go.Proofs.YtjgokmnhhcpkcaaW.PrintWords Go.Proofs.YtjgokmnhhcpkcaaW.PrintLast Go.Proofs.YtjgokmnhhcpkcaaW.PrintMore
set_option linter.unusedVariables false
set_option linter.unusedSimpArgs false
set_option maxRecDepth 100000 in
set_option maxHeartbeats 8000000 in
theorem l1New_calls (A0 : Option Addr) (c0 : Nat) (l0 : List Int) (w : World) (hr0 : Kd.C (Kd.int .u8) w A0 l0.length l0) (hc0 : l0.length ≤ c0) (hm : l0.length ≤ 140737488351232) :
    Calls Try.prog 48 #[.slice A0 l0.length c0] w fun e w' => ∃ (g : Nat) (h : Int), e = .returned (.pointer (some ⟨g, 0, none⟩)) ∧ IsS62 w w' g l0 0 h ∧ Below w.heap.size w w' := by
  have hu62 := Try.underlying62
  have HR0 := Aside0.mk hr0
  have HC0 := Aside0.mk hc0
  have HM := Aside0.mk hm
  clear hr0 hc0 hm
  have HB := Aside0.mk (Below.refl w.heap.size w)
  go_enter Try.func48, Try.ntmps48
  go_wp2
  go_loopg [3, 4] l0.length (fun kq v3 v4 w' => ∃ (x3 : Int) (x4 : Int), v3 = .int .i64 x3 ∧ v4 = .int .i64 x4 ∧ Aside0 (0 ≤ x4 ∧ x4 + kq = l0.length) ∧ Aside0 (Below w.heap.size w w'))
  case atStart => exact ⟨_, 0, rfl, rfl, ⟨by omega⟩, ⟨by repeat (first | (with_reducible first | exact HB.out | apply below_alloc | apply pw_below_drewN | apply below_drew1) | exact HB.out)⟩⟩
  case round =>
    obtain ⟨x3, x4, rfl, rfl, HA, HB⟩ := hrel
    have fin : True := trivial
    by_cases c2 : x4 < (l0.length : Int)
    · have d2 : decide (x4 < (l0.length : Int)) = true := decide_eq_true c2
      by_cases c3 : x4 < 4000
      · have d3 : decide (x4 < 4000) = true := decide_eq_true c3
        obtain ⟨ad, ea, hx0⟩ := Kd.at_int HR0.out x4 HA.out.1 c2
        cases ea
        have hx := pw_cell_below HB.out hx0
        have d4 : decide (0 ≤ x4) = true := decide_eq_true HA.out.1
        have p1 := eq_true HA.out.1
        have q1 := eq_true c2
        have HW := Aside0.mk (show wrap64 (x4 + 1) = x4 + 1 by
          have h1 := HA.out
          have h2 := HM.out
          exact wid (by omega) (by omega))
        clear c2 c3 hx0
        go_wp2
        go_roundg (gk - 1)
        case measure => have := HA.out; have := of_decide_eq_true d2; omega
        case rel => exact ⟨_, _, rfl, rfl, ⟨by have h1 := HA.out; have h2 := HW.out; have h3 := of_decide_eq_true d2; omega⟩, ⟨by repeat (first | (with_reducible first | exact HB.out | apply below_alloc | apply pw_below_drewN | apply below_drew1) | exact HB.out)⟩⟩
      · have d3 : decide (x4 < 4000) = false := decide_eq_false c3
        clear c2 c3
        go_wp2_with (first | ((with_reducible refine gate_dst (N := 31) rfl ?_); refine box_event ?hg (N := 31) ?hd (cs := #[.slice A0 l0.length c0, .int .i64 0, .int .i64 x3]) (t := 62) ?hr ?_; (case hd => rfl); (case hg => rfl); (case hr => first | (go_simp; done) | (go_simp; rfl)); intro gb hg w5 hbox hb; have n1_ := Aside0.mk (below_step (by repeat (first | (with_reducible first | exact HB.out | apply below_alloc | apply pw_below_drewN | apply below_drew1) | exact HB.out)) hb); have n2_ := Aside0.mk (hbox); have n4_ := Aside0.mk ((by rw [hg]; exact (below_size (by repeat (first | (with_reducible first | exact HB.out | apply below_alloc | apply pw_below_drewN | apply below_drew1) | exact HB.out))) : w.heap.size ≤ gb)); clear HB; have HB := n1_; have BK := n2_; have GE := n4_; clear n1_ n2_ n4_; clear hb hbox hg))
        go_ret
        exact ⟨gb, x3, rfl, (show IsS62 w _ gb l0 0 x3 from ⟨_, _, by (with_reducible repeat (first | refine blk_drewN ?_ _ | refine blk_drew ?_ | refine blk_alloc ?_ _)); exact BK.out, GE.out, HR0.out⟩), by repeat (first | (with_reducible first | exact HB.out | apply below_alloc | apply pw_below_drewN | apply below_drew1 | refine below_set ?_ GE.out) | exact HB.out)⟩
    · have d2 : decide (x4 < (l0.length : Int)) = false := decide_eq_false c2
      clear c2
      go_wp2_with (first | ((with_reducible refine gate_dst (N := 31) rfl ?_); refine box_event ?hg (N := 31) ?hd (cs := #[.slice A0 l0.length c0, .int .i64 0, .int .i64 x3]) (t := 62) ?hr ?_; (case hd => rfl); (case hg => rfl); (case hr => first | (go_simp; done) | (go_simp; rfl)); intro gb hg w5 hbox hb; have n1_ := Aside0.mk (below_step (by repeat (first | (with_reducible first | exact HB.out | apply below_alloc | apply pw_below_drewN | apply below_drew1) | exact HB.out)) hb); have n2_ := Aside0.mk (hbox); have n4_ := Aside0.mk ((by rw [hg]; exact (below_size (by repeat (first | (with_reducible first | exact HB.out | apply below_alloc | apply pw_below_drewN | apply below_drew1) | exact HB.out))) : w.heap.size ≤ gb)); clear HB; have HB := n1_; have BK := n2_; have GE := n4_; clear n1_ n2_ n4_; clear hb hbox hg))
      go_ret
      exact ⟨gb, x3, rfl, (show IsS62 w _ gb l0 0 x3 from ⟨_, _, by (with_reducible repeat (first | refine blk_drewN ?_ _ | refine blk_drew ?_ | refine blk_alloc ?_ _)); exact BK.out, GE.out, HR0.out⟩), by repeat (first | (with_reducible first | exact HB.out | apply below_alloc | apply pw_below_drewN | apply below_drew1 | refine below_set ?_ GE.out) | exact HB.out)⟩
end Go.Proofs.Ytjgokmnhhcpkcaa.L1New
