/- laws.toMoveSS, walked: it copies a slice of slices of moves; the rows are rows of their own, apart. No condition. -/
import Derived.Test.YtkbbgjoohffooaaRowsOf
import Derived.Test.YtkbbgjoohffooaaMoveT
import Derived.Test.YtkbbgjoohffooaaAid
import Derived.Test.YtkbbgjoohffooaaLoop
namespace Go.Proofs.Ytkbbgjoohffooaa.ToMoveSS
open Go.RowKit Go.Proofs.Ytkbbgjoohffooaa.Aid Go.Proofs.Ytkbbgjoohffooaa.RowsOf Go.Proofs.Ytkbbgjoohffooaa.PFnExactMovesOk Go.Proofs.YtkbbgjoohffooaaW.PrintWords Go.Proofs.YtkbbgjoohffooaaW.PrintLast Go.Proofs.YtkbbgjoohffooaaW.PrintMore
set_option linter.unusedVariables false
set_option linter.unusedSimpArgs false
def cv (m : S99) : S69 := ⟨m.f0, m.f1, m.f2, m.f3⟩
theorem toMoveS_loop (l : List S99) (hl : l.length ≤ 1048576) : ∀ (d i k : Nat) (y : List S69), i + d = l.length → d < k → y.length = l.length → (∀ j, j < i → y[j]? = (l[j]?).map cv) → laws_toMoveS.l0 k l y i = some (l.map cv) := by
  intro d
  induction d with
  | zero =>
    intro i k y h hk hy hj
    obtain ⟨k, rfl⟩ : ∃ m, k = m + 1 := ⟨k - 1, by omega⟩
    simp only [laws_toMoveS.l0]
    rw [if_neg (by omega)]
    congr 1
    refine List.ext_getElem? fun j => ?_
    rw [List.getElem?_map]
    by_cases c : j < i
    · exact hj j c
    · rw [List.getElem?_eq_none (by omega), List.getElem?_eq_none (by omega)]; rfl
  | succ d ih =>
    intro i k y h hk hy hj
    obtain ⟨k, rfl⟩ : ∃ m, k = m + 1 := ⟨k - 1, by omega⟩
    have hi : i < l.length := by omega
    have e : rd_T99 l (i : Int) = l[i] := by
      unfold rd_T99
      rw [Int.toNat_natCast, List.getD_eq_getElem?_getD, List.getElem?_eq_getElem hi]; rfl
    simp only [laws_toMoveS.l0, laws_toMove.f, Option.bind_some]
    rw [if_pos (by omega), if_pos (by omega), if_pos (by omega), Loop.wsucc i (by omega), Int.toNat_natCast, e]
    refine ih (i + 1) k _ (by omega) (by omega) (by simpa using hy) fun j h1 => ?_
    by_cases e : i = j
    · subst e
      rw [List.getElem?_set_self (by omega), List.getElem?_eq_getElem hi]; rfl
    · rw [List.getElem?_set_ne e]; exact hj j (by omega)
theorem toMoveS_ok (l : List S99) (hl : l.length ≤ 1048576) (k : Nat) (hk : l.length < k) : laws_toMoveS.f k l = some (l.map cv) := by
  unfold laws_toMoveS.f
  rw [if_pos (by omega), Int.toNat_natCast, if_pos (by omega)]
  exact toMoveS_loop l hl l.length 0 k _ (by omega) hk (by simp) (by intro j h; omega)
theorem op_make (ρ : Operand → Value) (o : Oper) (x y : Operand) (ho : o.op = .makeSlice 22 x y) (n : Nat) (hn : n ≤ 1048576) (hx : ρ x = .int .i64 n) (hy : ρ y = .int .i64 n) (w : World) :
    (execOp ρ o).run Try.prog w = .ok (.value (.slice (some ⟨w.heap.size, 0, none⟩) n n)) (w.alloc (.cells ⟨List.replicate n (.slice none 0 0)⟩ 66 (0, 0))) := by
  have hinfo : (Try.prog.info? 66).map (fun i => (i.zero, i.size, i.bytes)) = some (some (.slice none 0 0), 1, 24) := by kernel_rfl
  obtain ⟨i0, hi, hzz⟩ := Option.map_eq_some_iff.1 hinfo
  simp only [Prod.mk.injEq] at hzz
  obtain ⟨hz0, hz1, hz2⟩ := hzz
  have hr := run_make (P := Try.prog) w 22 66 i0 (.slice none 0 0) Try.underlying22 hi hz0 .i64 .i64 (n : Int) (n : Int) (by omega) (by omega) (by rw [hz2]; omega) (by omega)
  simp only [Int.toNat_natCast, hz1, Nat.mul_one] at hr
  rw [show (Value.slice none 0 0).cells = #[Value.slice none 0 0] from rfl, made_one] at hr
  simp [execOp, ho, hx, hy, hr]
set_option maxRecDepth 100000 in
set_option maxHeartbeats 1000000 in
theorem toMoveSS_calls (A0 : Option Addr) (c0 : Nat) (l0 : List (List S99)) (w : World) (hr0 : Kd.C (Kd.slice 99 k99) w A0 l0.length l0) (hc0 : l0.length ≤ c0) (hm : l0.length ≤ 1048576) (hmi : ∀ x ∈ l0, x.length ≤ 1048576) :
    Calls Try.prog 34 #[.slice A0 l0.length c0] w fun e w' => ∃ g vs, e = .returned (.slice (some ⟨g, 0, none⟩) l0.length l0.length) ∧ Grid k69 69 66 w' g w.heap.size vs (l0.map (·.map cv)) ∧ w.heap.size ≤ g ∧ Below w.heap.size w w' := by
  have HR := Aside0.mk hr0
  have HMI := Aside0.mk hmi
  clear hr0 hmi
  obtain ⟨n, hn⟩ : ∃ n, n = l0.length := ⟨_, rfl⟩
  have HN := Aside0.mk hn
  rw [← hn] at hm hc0 HR ⊢
  clear hn
  go_enter Try.func34, Try.ntmps34
  go_wp2_with ((with_reducible refine gate_dst (N := 7) rfl ?_); refine Kd.event_run rfl (op_make _ _ _ _ rfl n hm rfl rfl _) ?_)
  have HB := Aside0.mk (below_alloc (Below.refl w.heap.size w) (.cells ⟨List.replicate n (.slice none 0 0)⟩ 66 (0, 0)))
  obtain ⟨g, hg⟩ : ∃ g, g = w.heap.size := ⟨_, rfl⟩
  have HW : Aside0 (Grid k69 69 66 (w.alloc (.cells ⟨List.replicate n (.slice none 0 0)⟩ 66 (0, 0))) g w.heap.size _ _) := Aside0.mk (by subst hg; exact Grid.new n w.heap.size)
  have HG := Aside0.mk (show w.heap.size ≤ g by omega)
  rw [← hg]
  clear hg
  go_loopg [4] n (fun kq v4 wr => ∃ (k : Nat) (vs : List Value) (ls : List (List S69)), v4 = .int .i64 k ∧ Aside0 (k + kq = n ∧ ls.length = n ∧ ∀ j, j < k → ls[j]? = (l0[j]?).map (·.map cv)) ∧ Aside0 (Grid k69 69 66 wr g w.heap.size vs ls) ∧ Aside0 (Below w.heap.size w wr))
  case atStart => exact ⟨0, _, _, rfl, ⟨by omega, List.length_replicate, by intro j h; omega⟩, ⟨by exact HW.out⟩, ⟨by exact HB.out⟩⟩
  case round =>
    clear HW HB
    obtain ⟨k, vs, ls, rfl, HA, HW, HB⟩ := hrel
    by_cases hk : k < n
    · have d1 : decide ((k : Int) < (n : Int)) = true := decide_eq_true (by omega)
      obtain ⟨ad, A1, c1, x, ea, hx, hcell, hlc, hC⟩ := at_rows HR.out k hk
      cases ea
      have hcell := pw_cell_below HB.out hcell
      have HX := Aside0.mk hx
      have HT := laws_toMoveS.calls 1048577 A1 c1 x (x.map cv) wr (Kd.C_below hC HB.out) hlc (toMoveS_ok x (HMI.out x (List.mem_of_getElem? hx)) 1048577 (by have := HMI.out x (List.mem_of_getElem? hx); omega))
      clear hx hC hlc
      go_wp2_with fail
      refine HT.mono ?_
      rintro e w2 ⟨v2, rfl, hR2, hB2⟩
      have hW2 := HW.out.below hB2
      have HF := Aside0.mk (HW.out.fresh hR2)
      have hkl : k < ls.length := by rw [HA.out.2.1]; exact hk
      have hcg := hW2.cell hkl
      have hfg := hW2.frozen k
      have HP := Aside0.mk (hW2.put hkl (Kd.R_mono (Kd.R_lower (Kd.R_bound hR2) HB.out.size) (fun b hb => by have := hb.2.1; have := HW.out.lt; omega)) HF.out)
      have HB2 := Aside0.mk (below_step HB.out hB2)
      clear hB2 HT hcell hW2 HF
      obtain ⟨A2, c2, rfl⟩ := Kd.R_slice hR2
      clear hR2
      go_wp2_with fail
      go_roundg (gk - 1)
      case measure => have := HA.out; omega
      case rel =>
        refine ⟨k + 1, _, ls.set k (x.map cv), by go_num, ⟨by have := HA.out; omega, by rw [List.length_set]; exact HA.out.2.1, fun j hj => ?_⟩, ⟨by have h := HP.out; rw [List.length_map] at h; exact h⟩, ⟨below_set HB2.out HG.out⟩⟩
        by_cases e : k = j
        · subst e
          rw [List.getElem?_set_self hkl, HX.out]; rfl
        · rw [List.getElem?_set_ne e]
          exact HA.out.2.2 j (by omega)
    · have d1 : decide ((k : Int) < (n : Int)) = false := decide_eq_false (by omega)
      have HE := Aside0.mk (show ls = l0.map (·.map cv) by
        have h := HA.out
        refine List.ext_getElem? fun j => ?_
        rw [List.getElem?_map]
        by_cases c : j < k
        · exact h.2.2 j c
        · rw [List.getElem?_eq_none (by omega), List.getElem?_eq_none (by have := HN.out; omega)]; rfl)
      have HW := Aside0.mk (HE.out ▸ HW.out : Grid k69 69 66 wr g w.heap.size vs (l0.map (·.map cv)))
      go_wp2_with fail
      go_ret
      exact ⟨g, vs, rfl, HW.out, HG.out, HB.out⟩
end Go.Proofs.Ytkbbgjoohffooaa.ToMoveSS
