/- laws.FnExactRound, walked: the program's Round returns what the reference's returns, for every slice of slices. No condition. -/
import Derived.Test.YtkbbgjoohffooaaMarkIntSS
import Derived.Test.YtkbbgjoohffooaaToIntSS
namespace Go.Proofs.Ytkbbgjoohffooaa.PFnExactRound
open Go.RowKit Go.Proofs.Ytkbbgjoohffooaa.Aid Go.Proofs.Ytkbbgjoohffooaa.RowsOf Go.Proofs.Ytkbbgjoohffooaa.RoundP Go.Proofs.Ytkbbgjoohffooaa.MarkIntSS Go.Proofs.YtkbbgjoohffooaaW.PrintWords Go.Proofs.YtkbbgjoohffooaaW.PrintLast Go.Proofs.YtkbbgjoohffooaaW.PrintMore
set_option linter.unusedVariables false
set_option linter.unusedSimpArgs false
theorem szI (l : List Int) (a : Int) (hl : l.length ≤ maxLen) (h0 : 0 ≤ a) (h1 : a ≤ 1048576) : laws_szIntS.f l a = some (if a < (l.length : Int) then -1 else a - l.length) := by
  have hm : maxLen = 9223372036854775807 := rfl
  unfold laws_szIntS.f
  rw [wid (by omega) (by omega)]
  by_cases c : a < (l.length : Int)
  · rw [if_pos c, if_pos (by omega)]
  · rw [if_neg c, if_neg (by omega)]
theorem rdL_nat (l : List (List Int)) (i : Nat) : rd_L1 l (i : Int) = l.getD i [] := by unfold rd_L1; rw [Int.toNat_natCast]
theorem szSS (l : List (List Int)) (a : Int) (k : Nat) (hk : 1048580 ≤ k) (hl : l.length ≤ maxLen) (hi : ∀ y ∈ l, y.length ≤ maxLen) (h0 : 0 ≤ a) (h1 : a ≤ 1048576) :
    ∃ t, laws_szIntSS.f k l a = some t ∧ (t < 0 ∨ (0 ≤ t ∧ t ≤ a ∧ l.length ≤ 1048576 ∧ ∀ j, j < l.length → (l.getD j []).length ≤ 1048576)) := by
  have hm : maxLen = 9223372036854775807 := rfl
  unfold laws_szIntSS.f
  rw [wid (by omega) (by omega)]
  by_cases c : a - (l.length : Int) < 0
  · rw [if_pos c]; exact ⟨-1, rfl, .inl (by decide)⟩
  · rw [if_neg c]
    have g : ∀ j, j < l.length → (l.getD j []).length ≤ maxLen := by
      intro j hj
      rw [Loop.getD_lt l j [] hj]; exact hi _ (List.getElem_mem hj)
    have h := Loop.run_ix (fun k i s => if 0 ≤ s ∧ s ≤ 1048576 then laws_szIntSS.l0 k l s i else none) l.length 1 0
      (fun i s => if 0 ≤ s ∧ s ≤ 1048576 then (if s < ((l.getD i []).length : Int) then .inl (some (-1)) else .inr (s - (l.getD i []).length)) else .inl none)
      (fun s => if 0 ≤ s ∧ s ≤ 1048576 then some s else none)
      (by intro k i s _ hi'
          by_cases b : 0 ≤ s ∧ s ≤ 1048576
          · rw [if_pos b, if_pos b]
            simp only [laws_szIntSS.l0]
            rw [if_pos (show (i : Int) < (l.length : Int) by omega), if_pos (show 0 ≤ (i : Int) by omega), rdL_nat, Loop.wsucc i (by omega), szI _ s (g i hi') b.1 b.2]
            simp only [Option.bind_some]
            by_cases c2 : s < ((l.getD i []).length : Int)
            · rw [if_pos c2, if_pos c2, if_pos (by decide)]
            · rw [if_neg c2, if_neg c2, if_neg (by omega)]
              exact (if_pos (by omega)).symm
          · rw [if_neg b, if_neg b])
      (by intro k s _
          by_cases b : 0 ≤ s ∧ s ≤ 1048576
          · rw [if_pos b, if_pos b]; simp only [laws_szIntSS.l0]; rw [if_neg (by omega)]
          · rw [if_neg b, if_neg b])
      l.length 0 k (a - l.length) (by omega) (by omega)
    have hz : (0 : Int) ≤ a - l.length ∧ a - l.length ≤ 1048576 := by omega
    rw [if_pos hz] at h
    rw [show laws_szIntSS.l0 k l (a - l.length) 0 = _ from h]
    exact Loop.run_inv _ _ (fun i s => 0 ≤ s ∧ s ≤ a ∧ ∀ j, j < i → (l.getD j []).length ≤ 1048576)
      (fun r => ∃ t, r = some t ∧ (t < 0 ∨ (0 ≤ t ∧ t ≤ a ∧ l.length ≤ 1048576 ∧ ∀ j, j < l.length → (l.getD j []).length ≤ 1048576))) l.length
      (by intro i s r _ hI e
          rw [if_pos (by omega)] at e
          split at e
          · cases e; exact ⟨-1, rfl, .inl (by decide)⟩
          · cases e)
      (by intro i s s' _ hI e
          rw [if_pos (by omega)] at e
          split at e
          · cases e
          · cases e
            refine ⟨by omega, by omega, fun j hj => ?_⟩
            by_cases ej : j = i
            · subst ej; omega
            · exact hI.2.2 j (by omega))
      (by intro s hI
          rw [if_pos (by omega)]
          exact ⟨s, rfl, .inr ⟨hI.1, hI.2.1, by omega, hI.2.2⟩⟩)
      l.length 0 (a - l.length) (by omega) ⟨by omega, by omega, fun j hj => by omega⟩
theorem rd_nat (l : List Int) (i : Nat) : rd l (i : Int) = l.getD i 0 := by unfold rd; rw [Int.toNat_natCast]
theorem eqIntS_loop (l : List Int) (hl : l.length ≤ 1048576) : ∀ (d i k : Nat), i + d = l.length → d < k → laws_eqIntS.l0 k l l i = some true := by
  intro d
  induction d with
  | zero =>
    intro i k h hk
    obtain ⟨k, rfl⟩ : ∃ m, k = m + 1 := ⟨k - 1, by omega⟩
    simp only [laws_eqIntS.l0]
    rw [if_neg (by omega)]
  | succ d ih =>
    intro i k h hk
    obtain ⟨k, rfl⟩ : ∃ m, k = m + 1 := ⟨k - 1, by omega⟩
    simp only [laws_eqIntS.l0]
    rw [if_pos (by omega), if_pos (by omega), if_pos (by omega), if_pos trivial, Loop.wsucc i (by omega)]
    exact ih (i + 1) k (by omega) (by omega)
theorem eqIntS_ok (l : List Int) (hl : l.length ≤ 1048576) (k : Nat) (hk : l.length < k) : laws_eqIntS.f k l l = some true := by
  unfold laws_eqIntS.f
  rw [if_pos rfl]
  exact eqIntS_loop l hl l.length 0 k (by omega) hk
theorem eqSS_ok (l : List (List Int)) (hl : l.length ≤ 1048576) (hi : ∀ j, j < l.length → (l.getD j []).length ≤ 1048576) (k : Nat) (hk : 2097160 ≤ k) : laws_eqIntSS.f k l l = some true := by
  unfold laws_eqIntSS.f
  rw [if_pos rfl]
  have h := Loop.all_ix (fun k i => laws_eqIntSS.l0 k l l i) l.length 1 1048577 (fun _ => true) (some false) (some true)
    (by intro k i hk hi'
        simp only [laws_eqIntSS.l0]
        rw [if_pos (show (i : Int) < (l.length : Int) by omega), if_pos (show 0 ≤ (i : Int) by omega), if_pos (show (i : Int) < (l.length : Int) by omega), rdL_nat, eqIntS_ok _ (hi i hi') k (by have := hi i hi'; omega), Loop.wsucc i (by omega)]
        rfl)
    (by intro k _; simp only [laws_eqIntSS.l0]; rw [if_neg (by omega)])
    l.length 0 k (by omega) (by omega)
  rw [show laws_eqIntSS.l0 k l l 0 = _ from h]
  rw [if_pos ((Loop.allB_iff _ _ _).2 fun j _ _ => rfl)]
theorem mark_loop (n : Nat) (hn : n ≤ 1048576) : ∀ (d i k : Nat) (y : List Int), i + d = n → d < k → y.length = n → (∀ j, j < i → y.getD j 0 = 1 + (j : Int)) → ∃ z : List Int, laws_markIntS.l0 k y (1 + i) i = some (1 + (n : Int), z) ∧ z.length = n ∧ ∀ j, j < n → z.getD j 0 = 1 + (j : Int) := by
  intro d
  induction d with
  | zero =>
    intro i k y h hk hy hj
    obtain ⟨k, rfl⟩ : ∃ m, k = m + 1 := ⟨k - 1, by omega⟩
    obtain rfl : i = n := by omega
    simp only [laws_markIntS.l0]
    rw [if_neg (by omega)]
    exact ⟨y, rfl, hy, hj⟩
  | succ d ih =>
    intro i k y h hk hy hj
    obtain ⟨k, rfl⟩ : ∃ m, k = m + 1 := ⟨k - 1, by omega⟩
    simp only [laws_markIntS.l0]
    rw [if_pos (by omega), if_pos (by omega), Loop.wsucc i (by omega), Int.toNat_natCast, wid (x := 1 + (i : Int) + 1) (by omega) (by omega), show 1 + (i : Int) + 1 = 1 + ((i + 1 : Nat) : Int) by omega]
    refine ih (i + 1) k _ (by omega) (by omega) (by simpa using hy) fun j h1 => ?_
    by_cases e : j = i
    · rw [e, Loop.getD_set_eq _ _ _ _ (by omega)]
    · rw [Loop.getD_set_ne _ _ _ _ _ e]; exact hj j (by omega)
/-- The marks of a list of ints. -/
theorem mark_ok (l : List Int) (hl : l.length ≤ 1048576) : ∃ z : List Int, laws_markIntS.f (l.length + 1) l 1 = some (1 + (l.length : Int), z) ∧ z.length = l.length ∧ ∀ j, j < l.length → z.getD j 0 = 1 + (j : Int) := by
  unfold laws_markIntS.f
  exact mark_loop l.length hl l.length 0 (l.length + 1) l (by omega) (by omega) rfl (by intro j h; omega)
theorem held_loop (z : List Int) (hn : z.length ≤ 1048576) (hz : ∀ j, j < z.length → z.getD j 0 = 1 + (j : Int)) : ∀ (d i k : Nat), i + d = z.length → d < k → laws_heldIntS.l0 k z (1 + i) i = some (1 + (z.length : Int)) := by
  intro d
  induction d with
  | zero =>
    intro i k h hk
    obtain ⟨k, rfl⟩ : ∃ m, k = m + 1 := ⟨k - 1, by omega⟩
    obtain rfl : i = z.length := by omega
    simp only [laws_heldIntS.l0]
    rw [if_neg (by omega)]
  | succ d ih =>
    intro i k h hk
    obtain ⟨k, rfl⟩ : ∃ m, k = m + 1 := ⟨k - 1, by omega⟩
    simp only [laws_heldIntS.l0]
    rw [if_pos (by omega), if_pos (by omega), rd_nat, hz i (by omega), if_pos rfl, Loop.wsucc i (by omega), wid (x := 1 + (i : Int) + 1) (by omega) (by omega), show 1 + (i : Int) + 1 = 1 + ((i + 1 : Nat) : Int) by omega]
    exact ih (i + 1) k (by omega) (by omega)
theorem held_ok (z : List Int) (hn : z.length ≤ 1048576) (hz : ∀ j, j < z.length → z.getD j 0 = 1 + (j : Int)) : laws_heldIntS.f (z.length + 1) z 1 = some (1 + (z.length : Int)) := by
  unfold laws_heldIntS.f
  exact held_loop z hn hz z.length 0 (z.length + 1) (by omega) (by omega)
theorem small_mem {l : List (List Int)} (h : Small l) : ∀ x ∈ l, x.length ≤ 1048576 := by
  intro x hx
  obtain ⟨j, hj, rfl⟩ := List.getElem_of_mem hx
  have := h.2 j hj
  rwa [Loop.getD_lt _ _ _ hj] at this
theorem sz_calls (A0 : Option Addr) (c0 : Nat) (l0 : List (List Int)) (w : World) (hr0 : Kd.C (Kd.slice 3 (Kd.int .i64)) w A0 l0.length l0) (hc0 : l0.length ≤ c0) (h0 : l0.length ≤ maxLen) (h0' : ∀ y ∈ l0, y.length ≤ maxLen) :
    ∃ t, (t < 0 ∨ (0 ≤ t ∧ Small l0)) ∧ Calls Try.prog 16 #[.slice A0 l0.length c0, .int .i64 1048576] w fun e w' => e = .returned (.int .i64 t) ∧ Drawn0 w w' := by
  obtain ⟨t0, e0, r0⟩ := szSS l0 1048576 1048580 (by decide) h0 h0' (by decide) (by decide)
  refine ⟨t0, ?_, laws_szIntSS.calls 1048580 A0 c0 l0 1048576 t0 w hr0 hc0 e0⟩
  rcases r0 with r0 | ⟨p0, p1, p2, p3⟩
  · exact .inl r0
  · exact .inr ⟨p0, p2, p3⟩
set_option maxRecDepth 100000 in
set_option maxHeartbeats 1000000 in
theorem law_walk (A0 : Option Addr) (c0 : Nat) (l0 : List (List Int)) (w : World) (hr0 : Kd.C (Kd.slice 3 (Kd.int .i64)) w A0 l0.length l0) (hc0 : l0.length ≤ c0) (h0 : l0.length ≤ maxLen) (h0' : ∀ y ∈ l0, y.length ≤ maxLen) :
    Calls Try.prog 4 #[.slice A0 l0.length c0] w fun e w' => e = .returned (.bool true) ∧ Below w.heap.size w w' := by
  obtain ⟨t, ht, hsz⟩ := sz_calls A0 c0 l0 w hr0 hc0 h0 h0'
  have HR0 := Aside0.mk hr0
  clear hr0 h0 h0'
  go_enter Try.func4, Try.ntmps4
  go_wp2_with fail
  refine hsz.mono ?_
  rintro e w' ⟨rfl, ⟨nd, rfl⟩⟩
  clear hsz
  rcases ht with ht | ⟨ht, hs⟩
  · have d1 : decide (t < 0) = true := decide_eq_true ht
    go_wp2_with fail
    go_ret
    exact ⟨rfl, pw_below_drewN (Below.refl _ _) nd⟩
  · have d1 : decide (t < 0) = false := decide_eq_false (by omega)
    have HB := Aside0.mk (pw_below_drewN (Below.refl w.heap.size w) nd)
    have HT := fun W1 (hb : Below w.heap.size w W1) => ToIntSS.toIntSS_calls A0 c0 l0 W1 (Kd.C_below HR0.out hb) hc0 hs.1 (small_mem hs)
    have hl := roundI_len l0
    have HI := fun A c W => RoundP.B.impl_calls A c l0 W hs
    have HSp := fun A c W => RoundP.A.spec_calls A c l0 W hs
    have HMK := fun g vs w0 w h1 h2 h3 => markIntSS_calls g vs l0 w0 w hs h1 h2 h3
    have hpb := pre_bd l0 hs l0.length (Nat.le_refl _)
    have hs1 := hs.1
    have HEQ := Aside0.mk (eqSS_ok l0 hs.1 hs.2 2097160 (by decide))
    clear hs ht
    generalize roundI l0 = r at *
    have HE := Aside0.mk (eqIntS_ok r (by omega) (r.length + 1) (by omega))
    obtain ⟨z, z1, z2, z3⟩ := mark_ok r (by omega)
    have HM := Aside0.mk z1
    have HZ := Aside0.mk (held_ok z (by omega) (by rw [z2]; exact z3))
    have HL := Aside0.mk z2
    clear z1 z2 z3
    go_wp2_with fail
    refine (HT _ HB.out).mono ?_
    rintro e w1 ⟨g1, vs1, rfl, hG1, _, hb⟩
    have HB := Aside0.mk (below_step HB.out hb)
    have hC := hG1.reads (by omega)
    clear hb hG1
    go_wp2_with fail
    refine (HSp _ _ _ hC (Nat.le_refl _)).mono ?_
    rintro e w2 ⟨v0, rfl, ho0, hb⟩
    have HBW := Aside0.mk (below_step HB.out hb)
    obtain ⟨Aw, cw, rfl⟩ := Kd.R_slice ho0
    have HW0 := Aside0.mk (Kd.R_reads' ho0)
    clear hb hC ho0 HSp HB
    go_wp2_with fail
    refine (HT _ HBW.out).mono ?_
    rintro e w3 ⟨g, vs, rfl, hG, hge, hb⟩
    have HX := Aside0.mk hb
    have HG := Aside0.mk hG
    have HGE := Aside0.mk hge
    have hC := hG.reads (by omega)
    have HSZ := Aside0.mk hb.size
    have HLT := Aside0.mk (fun j k (h : (vs.getD j undef).ownBlock = some k) => (show k < w3.heap.size by
      by_cases c : j < l0.length
      · exact Kd.R_lt (hG.row (List.getElem?_eq_getElem c)) k h
      · rw [List.getD_eq_getElem?_getD, List.getElem?_eq_none (by have := hG.2.1; omega)] at h
        simp [Value.ownBlock, undef] at h))
    clear hb hG hge
    go_wp2_with fail
    refine (HI _ _ _ hC (Nat.le_refl _)).mono ?_
    rintro e w4 ⟨v1, rfl, ho1, hb⟩
    have HX := Aside0.mk (below_step HX.out hb)
    have HG := Aside0.mk (HG.out.below hb)
    have HBAS := Aside0.mk (Kd.R_base ho1)
    obtain ⟨A1, c1, rfl⟩ := Kd.R_slice ho1
    have HV1 := Aside0.mk (Kd.R_tight rfl (Kd.R_lower ho1 HSZ.out))
    clear hb hC ho1
    go_wp2_with fail
    refine (laws_eqIntS.calls (r.length + 1) A1 c1 r Aw cw r true _ (Kd.R_reads' HV1.out).2.2 (Kd.R_reads' HV1.out).2.1 (Kd.C_below HW0.out.2.2 HX.out) HW0.out.2.1 HE.out).mono ?_
    rintro e w' ⟨rfl, ⟨nd, rfl⟩⟩
    have HX := Aside0.mk (pw_below_drewN HX.out nd)
    have HG := Aside0.mk (HG.out.below (pw_below_drewN (Below.refl _ _) nd))
    have HV1 := Aside0.mk (Kd.R_drewN HV1.out nd)
    go_wp2_with fail
    refine (HT _ (below_step HBW.out HX.out)).mono ?_
    rintro e w5 ⟨g2, vs2, rfl, hG2, _, hb⟩
    have HX := Aside0.mk (below_step HX.out hb)
    have HG := Aside0.mk (HG.out.below hb)
    have HV1 := Aside0.mk (Kd.R_below HV1.out hb)
    have hC2 := hG2.reads (by omega)
    have hC := HG.out.reads (by omega)
    clear hb hG2
    go_wp2_with fail
    refine (laws_eqIntSS.calls 2097160 _ _ l0 _ _ l0 true _ hC (Nat.le_refl _) hC2 (Nat.le_refl _) HEQ.out).mono ?_
    rintro e w' ⟨rfl, ⟨nd2, rfl⟩⟩
    have HX := Aside0.mk (pw_below_drewN HX.out nd2)
    have HG := Aside0.mk (HG.out.below (pw_below_drewN (Below.refl _ _) nd2))
    have HV1 := Aside0.mk (Kd.R_drewN HV1.out nd2)
    clear hC hC2
    have d2 : decide ((1 + (pre l0 l0.length : Int)) < 0) = false := decide_eq_false (by omega)
    go_wp2_with fail
    refine (HMK g vs w2 _ HG.out HX.out HGE.out).mono ?_
    rintro e w6 ⟨rfl, hK, hB6⟩
    have HX := Aside0.mk hB6
    have HV1 := Aside0.mk (Kd.R_step HV1.out (fun k hk hlt => hK.2 k hlt (fun ⟨j, hj⟩ => by
      have h1 := HLT.out j k hj
      have h2 := HBAS.out k hk.symm
      omega)))
    clear hK hB6 HG HMK
    go_wp2_with fail
    refine (laws_eqIntS.calls (r.length + 1) A1 c1 r Aw cw r true _ (Kd.R_reads' HV1.out).2.2 (Kd.R_reads' HV1.out).2.1 (Kd.C_below HW0.out.2.2 HX.out) HW0.out.2.1 HE.out).mono ?_
    rintro e w' ⟨rfl, ⟨nd3, rfl⟩⟩
    have HX := Aside0.mk (pw_below_drewN HX.out nd3)
    have HV1 := Aside0.mk (Kd.R_drewN HV1.out nd3)
    go_wp2_with fail
    refine (laws_markIntS.calls (r.length + 1) _ _ r 1 (1 + (r.length : Int)) z w2 _ HX.out HV1.out HM.out).mono ?_
    rintro e w7 ⟨rfl, ho7, hB7, _⟩
    have HX := Aside0.mk hB7
    have HC7 := Aside0.mk (Kd.R_reads' ho7)
    clear ho7 hB7 HV1
    have HH : ∀ W, Kd.C (Kd.int .i64) W A1 z.length z → z.length ≤ c1 → Calls Try.prog 24 #[.slice A1 r.length c1, .int .i64 1] W fun e w' => e = .returned (.int .i64 (1 + (r.length : Int))) ∧ Drawn0 W w' := by
      intro W h1 h2
      have := laws_heldIntS.calls (z.length + 1) A1 c1 z 1 (1 + (z.length : Int)) W h1 h2 HZ.out
      rwa [HL.out] at this
    have hz1 : z.length ≤ c1 := by have := HC7.out.2.1; have := HL.out; omega
    have d3 : decide ((1 + (r.length : Int)) < 0) = false := decide_eq_false (by omega)
    go_wp2_with fail
    refine (HH _ HC7.out.2.2 hz1).mono ?_
    rintro e w' ⟨rfl, ⟨nd4, rfl⟩⟩
    have HX := Aside0.mk (pw_below_drewN HX.out nd4)
    have HC7 := Aside0.mk (Kd.C_drewN HC7.out.2.2 nd4)
    have d4 : ((1 + (r.length : Int)) != 1 + (r.length : Int)) = false := bne_eq_false_iff_eq.mpr rfl
    go_wp2_with fail
    refine (HT _ (below_step HBW.out HX.out)).mono ?_
    rintro e w8 ⟨g3, vs3, rfl, hG3, _, hb⟩
    have HX := Aside0.mk (below_step HX.out hb)
    have HC7 := Aside0.mk (Kd.C_below HC7.out hb)
    have hC := hG3.reads (by omega)
    clear hb hG3
    go_wp2_with fail
    refine (HI _ _ _ hC (Nat.le_refl _)).mono ?_
    rintro e w9 ⟨v9, rfl, ho9, hb⟩
    have HX := Aside0.mk (below_step HX.out hb)
    have HC7 := Aside0.mk (Kd.C_below HC7.out hb)
    obtain ⟨A9, c9, rfl⟩ := Kd.R_slice ho9
    have HR9 := Aside0.mk (Kd.R_reads' ho9)
    clear hb hC ho9
    go_wp2_with fail
    refine (laws_eqIntS.calls (r.length + 1) A9 c9 r Aw cw r true _ HR9.out.2.2 HR9.out.2.1 (Kd.C_below HW0.out.2.2 HX.out) HW0.out.2.1 HE.out).mono ?_
    rintro e w' ⟨rfl, ⟨nd5, rfl⟩⟩
    go_wp2_with fail
    refine (HH _ (Kd.C_drewN HC7.out nd5) hz1).mono ?_
    rintro e w' ⟨rfl, ⟨nd6, rfl⟩⟩
    go_wp2_with fail
    go_ret
    exact ⟨rfl, by repeat (first | exact below_step HBW.out HX.out | apply pw_below_drewN)⟩
theorem laws_FnExactRound.calls (A0 : Option Addr) (c0 : Nat) (l0 : List (List Int)) (r : Bool) (w : World) (hr0 : Kd.C (Kd.slice 3 (Kd.int .i64)) w A0 l0.length l0) (hc0 : l0.length ≤ c0) (h : (l0.length ≤ maxLen ∧ ∀ y ∈ l0, y.length ≤ maxLen) ∧ true = r) :
    Calls Try.prog 4 #[.slice A0 l0.length c0] w fun e w' => e = .returned (.bool r) ∧ Below w.heap.size w w' := by
  obtain ⟨⟨h1, h2⟩, h⟩ := h
  subst h
  exact law_walk A0 c0 l0 w hr0 hc0 h1 h2
end Go.Proofs.Ytkbbgjoohffooaa.PFnExactRound
namespace Go.Proofs.Ytkbbgjoohffooaa.Pure
theorem FnExactRound (l0 : List (List Int)) (h0 : l0.length ≤ maxLen) (g0 : ∀ p ∈ l0, p.length ≤ maxLen ∧ ∀ y ∈ p, (Lit.int .i64 y).wf = true) :
    (l0.length ≤ maxLen ∧ ∀ y ∈ l0, y.length ≤ maxLen) ∧ true = true := ⟨⟨h0, fun y hy => (g0 y hy).1⟩, rfl⟩
end Go.Proofs.Ytkbbgjoohffooaa.Pure
