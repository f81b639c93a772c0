/- laws.markMoveSS, walked: over a slice of rows of moves of its own, no two in one block, it writes the marks. No condition. -/
import Derived.Test.YtkbbgjoohffooaaRingP
namespace Go.Proofs.Ytkbbgjoohffooaa.RingP
open Go.RowKit Go.Proofs.Ytkbbgjoohffooaa.Aid Go.Proofs.Ytkbbgjoohffooaa.PFnExactRing Go.Proofs.YtkbbgjoohffooaaW.PrintWords Go.Proofs.YtkbbgjoohffooaaW.PrintLast Go.Proofs.YtkbbgjoohffooaaW.PrintMore
set_option linter.unusedVariables false
set_option linter.unusedSimpArgs false
theorem k69E : k69.E = [] := rfl
set_option maxRecDepth 100000 in
set_option maxHeartbeats 1000000 in
theorem markMoveSS_calls (A : Option Addr) (c : Nat) (l : List (List S69)) (w0 w : World) (hl : l.length ≤ 1000) (hlj : ∀ j, j < l.length → (l.getD j []).length ≤ 4096) (hS : Kd.S (Kd.slice 69 k69) 66 w w0.heap.size (fun _ => True) (.slice A l.length c) l) (hB : Below w0.heap.size w0 w) :
    Calls Try.prog 14 #[.slice A l.length c, .int .i64 1] w fun e w' => e = .returned (.int .i64 (1 + 4 * (pre l l.length : Int))) ∧ Kd.S (Kd.slice 69 k69) 66 w' w0.heap.size (fun _ => True) (.slice A l.length c) (mkLL l) ∧ Below w0.heap.size w0 w' := by
  have HS := Aside0.mk hS
  have HB := Aside0.mk hB
  have HLJ := Aside0.mk hlj
  clear hS hB hlj
  obtain ⟨n, hn⟩ : ∃ n, n = l.length := ⟨_, rfl⟩
  have HN := Aside0.mk hn
  rw [← hn] at hl HS ⊢
  clear hn
  go_enter Try.func14, Try.ntmps14
  go_wp2_with fail
  go_loopg [1, 5] n (fun kq v1 v5 wr => ∃ (k : Nat) (zs : List (List S69)), v5 = .int .i64 k ∧ v1 = .int .i64 (1 + 4 * (pre l k : Int)) ∧ Aside0 (k + kq = n ∧ zs.length = n ∧ (∀ j, j < k → zs.getD j [] = mkL (1 + 4 * (pre l j : Int)) (l.getD j []).length) ∧ (∀ j, k ≤ j → j < n → zs.getD j [] = l.getD j [])) ∧ Aside0 (Kd.S (Kd.slice 69 k69) 66 wr w0.heap.size (fun _ => True) (.slice A n c) zs) ∧ Aside0 (Below w0.heap.size w0 wr))
  case atStart => exact ⟨0, l, rfl, rfl, ⟨by omega, HN.out.symm, by intro j h; omega, fun j _ _ => rfl⟩, HS, HB⟩
  case round =>
    clear HS HB
    obtain ⟨k, zs, rfl, rfl, HA, HS, HB⟩ := hrel
    by_cases hk : k < n
    · have d1 : decide ((k : Int) < (n : Int)) = true := decide_eq_true (by omega)
      obtain ⟨g, cc, eg, hge, _, _⟩ := Kd.S_form HS.out (by rw [HA.out.2.1]; omega)
      obtain ⟨e6, e7, ec⟩ : A = some ⟨g, 0, none⟩ ∧ n = zs.length ∧ c = cc := by injection eg with a b c; exact ⟨a, b, c⟩
      subst e6
      clear eg e7 ec
      obtain ⟨oki, cs, hcl, ⟨v, ecs, hR⟩, hcc, hoki, hH⟩ := Kd.S_lend HS.out ([] : List S69) (k : Int) (by omega) (by omega)
      subst ecs
      rw [Int.toNat_natCast] at hR hcc
      have hcell : wr.cell? ⟨g, k, none⟩ = some v := by
        have := hcc 0 v rfl
        rwa [show k * (Kd.slice 69 k69).sz + 0 = k from by show k * 1 + 0 = k; omega] at this
      rw [HA.out.2.2.2 k (Nat.le_refl _) hk] at hR
      have b3 := HLJ.out k (by rw [← HN.out]; exact hk)
      have hpb := pre_bd l HLJ.out k (by rw [← HN.out]; omega)
      have ep := pre_succ l k (by rw [← HN.out]; exact hk)
      have HM := laws_markMoveS.calls 5000 oki v (l.getD k []) (1 + 4 * (pre l k : Int)) _ _ w0 wr HB.out hR (markM _ b3 _ (by omega) (by omega))
      rw [show 1 + 4 * (pre l k : Int) + 4 * ((l.getD k []).length : Int) = 1 + 4 * (pre l (k + 1) : Int) by omega] at HM
      have HH := Aside0.mk hH
      have HRO := Aside0.mk hR.1
      obtain ⟨A1, c1, ev⟩ := Kd.R_slice hR
      subst ev
      clear hcl hcc hoki hH hR b3 hpb ep hge
      go_wp2_with fail
      refine HM.mono ?_
      rintro e w2 ⟨rfl, hR2, hB2, hK2⟩
      have HS2 := Aside0.mk (Kd.H_back (Kd.H_step HH.out (fun b _ hno hlt => hK2.2 b hlt hno)) (x' := mkL (1 + 4 * (pre l k : Int)) (l.getD k []).length) ⟨_, rfl, Kd.R_reok (ok := oki) k69E hR2 (fun b hb => HRO.out b hb)⟩ (fun _ h => h))
      have HB2 := Aside0.mk hB2
      clear HM hcell hR2 hB2 hK2 HH
      go_wp2_with fail
      go_roundg (gk - 1)
      case measure => have := HA.out; omega
      case rel =>
        refine ⟨k + 1, zs.set k (mkL (1 + 4 * (pre l k : Int)) (l.getD k []).length), by go_num, rfl, ⟨by have := HA.out; omega, by rw [List.length_set]; exact HA.out.2.1, fun j hj => ?_, fun j h1 h2 => ?_⟩, ⟨by have := HS2.out; rwa [Int.toNat_natCast] at this⟩, HB2⟩
        · by_cases e : j = k
          · rw [e, Loop.getD_set_eq _ _ _ _ (by rw [HA.out.2.1]; exact hk)]
          · rw [Loop.getD_set_ne _ _ _ _ _ e]; exact HA.out.2.2.1 j (by omega)
        · rw [Loop.getD_set_ne _ _ _ _ _ (by omega)]; exact HA.out.2.2.2 j (by omega) h2
    · have d1 : decide ((k : Int) < (n : Int)) = false := decide_eq_false (by omega)
      obtain rfl : k = n := by have := HA.out; omega
      have HE := Aside0.mk (show zs = mkLL l from List.ext_getElem (by rw [mkLL_len, HA.out.2.1]; exact HN.out) fun j h1 h2 => by
        have h3 := HA.out.2.2.1 j (by have := HA.out; omega)
        rw [← mkLL_get l j (by rw [mkLL_len] at h2; exact h2), Loop.getD_lt _ _ _ h1, Loop.getD_lt _ _ _ h2] at h3
        exact h3)
      go_wp2_with fail
      go_ret
      exact ⟨rfl, HE.out ▸ HS.out, HB.out⟩
end Go.Proofs.Ytkbbgjoohffooaa.RingP
