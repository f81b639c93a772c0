/- laws.FnShuffled, walked: what is shuffled is a permutation, at every draw. No condition. -/
import Derived.Test.YtjgokmnhhcpkcaaShuf
import Derived.Test.YtjgokmnhhcpkcaaCur
namespace Go.Proofs.Ytjgokmnhhcpkcaa.PFnShuffled
open Go.RowKit Go.Proofs.Ytjgokmnhhcpkcaa.Aid Go.Proofs.Ytjgokmnhhcpkcaa.Draws Go.Proofs.Ytjgokmnhhcpkcaa.Shuf Go.Proofs.YtjgokmnhhcpkcaaW.PrintWords Go.Proofs.YtjgokmnhhcpkcaaW.PrintLast Go.Proofs.YtjgokmnhhcpkcaaW.PrintMore
set_option linter.unusedVariables false
set_option linter.unusedSimpArgs false
theorem swp_perm (xs : List Int) (i j : Nat) (hi : i < xs.length) (hj : j < xs.length) : (swp xs i j).Perm xs := by
  unfold swp
  rw [List.getD_eq_getElem?_getD, List.getD_eq_getElem?_getD, List.getElem?_eq_getElem hi, List.getElem?_eq_getElem hj]
  exact List.set_set_perm hi hj
theorem shufL_perm : ∀ (i : Nat) (xs : List Int) (s : Int), i < xs.length → xs.length ≤ 4096 → stB s = true → (shufL i xs s).Perm xs := by
  intro i
  induction i with
  | zero => intro xs s _ _ _; exact List.Perm.refl _
  | succ i ih =>
    intro xs s h h2 hs
    obtain ⟨e, b0, b1, b2⟩ := below_is s (i + 2) hs (by omega) (by omega)
    rw [shufL, e]
    exact (ih _ _ (by rw [swp_len]; omega) (by rw [swp_len]; omega) b2).trans (swp_perm _ _ _ h (by omega))
theorem shufR_perm (s n : Int) (h : stB s = true ∧ 0 ≤ n ∧ n ≤ 4096) : (shufR s n).Perm (rng n.toNat) := by
  unfold shufR
  rw [if_pos h]
  by_cases c : n.toNat = 0
  · rw [c, show (n - 1).toNat = 0 by omega]; exact List.Perm.refl _
  · exact shufL_perm _ _ _ (by rw [rng_len]; omega) (by rw [rng_len]; omega) h.1
theorem rng_mem (n : Nat) (x : Int) : x ∈ rng n ↔ 0 ≤ x ∧ x < n := by
  unfold rng
  rw [List.mem_map]
  constructor
  · rintro ⟨i, hi, rfl⟩
    have := List.mem_range.1 hi
    exact ⟨Int.natCast_nonneg i, by show ((i : Nat) : Int) < n; omega⟩
  · rintro ⟨h0, h1⟩
    exact ⟨x.toNat, List.mem_range.2 (by omega), Int.toNat_of_nonneg h0⟩
theorem rng_nodup (n : Nat) : (rng n).Nodup := by
  unfold rng
  exact List.Pairwise.map _ (fun a b h e => h (by injection e)) List.nodup_range
set_option maxRecDepth 100000 in
set_option maxHeartbeats 1000000 in
theorem state_cur {w0 w : World} {g : Nat} {l : List Int} (hC : Cur w0 w g l) :
    Calls Try.prog 64 #[.pointer (some ⟨g, 0, none⟩)] w fun e w' => ∃ x, e = .returned (.int .i64 x) ∧ Cur w0 w' g l := by
  have ho := once_cur hC 12
  go_enter Try.func64, Try.ntmps64
  go_wp2_with fail
  refine ho.mono ?_
  rintro e w' ⟨b, rfl, hC⟩
  cases b with
  | true =>
    go_wp2_with fail
    refine (pick_cur hC 0 [4294967295, 4294967296, -1] (by simp) 3).mono ?_
    rintro e w' ⟨y, rfl, hC⟩
    go_wp2_with fail
    go_ret
    exact ⟨_, rfl, hC⟩
  | false =>
    go_wp2_with fail
    refine (below_cur hC 4294967296).mono ?_
    rintro e w' ⟨y, rfl, hC, _, _⟩
    go_wp2_with fail
    go_ret
    exact ⟨_, rfl, hC⟩
set_option maxRecDepth 100000 in
set_option maxHeartbeats 1000000 in
theorem drawShuffle_calls (A0 : Option Addr) (c0 : Nat) (l0 : List Int) (w : World) (hr0 : Kd.C (Kd.int .u8) w A0 l0.length l0) (hc0 : l0.length ≤ c0) (hm : l0.length ≤ 140737488351232) :
    Calls Try.prog 33 #[.slice A0 l0.length c0] w fun e w' => ∃ x y, e = .returned (.tuple #[.int .i64 x, .int .i64 y]) ∧ Below w.heap.size w w' := by
  have hN := new_cur A0 c0 l0 w hr0 hc0 hm
  go_enter Try.func33, Try.ntmps33
  go_wp2_with fail
  refine hN.mono ?_
  rintro e w1 ⟨g, rfl, hC⟩
  go_wp2_with fail
  refine (state_cur hC).mono ?_
  rintro e w' ⟨x, rfl, hC⟩
  go_wp2_with fail
  refine (below_cur hC 30).mono ?_
  rintro e w' ⟨y, rfl, hC, y0, y1⟩
  go_wp2_with fail
  refine (once_cur hC 30).mono ?_
  rintro e w' ⟨b, rfl, hC⟩
  cases b with
  | true =>
    go_wp2_with fail
    refine (pick_cur hC (-1) [4096, 4097] (by simp) 3).mono ?_
    rintro e w' ⟨y, rfl, hC⟩
    go_wp2_with fail
    go_ret2
    exact ⟨_, _, rfl, hC.below⟩
  | false =>
    go_wp2_with fail
    go_ret2
    exact ⟨_, _, rfl, hC.below⟩
theorem big_calls (A0 : Option Addr) (c0 : Nat) (l0 : List Int) (w : World) :
    Calls Try.prog 15 #[.slice A0 l0.length c0] w fun e w' => e = .returned (.bool (decide (1048576 < (l0.length : Int)))) ∧ w = w' := by
  go_enter Try.func15, Try.ntmps15
  go_wp2
  go_ret
  exact ⟨rfl, rfl⟩
set_option maxRecDepth 100000 in
set_option maxHeartbeats 1000000 in
theorem big_ (A0 : Option Addr) (c0 : Nat) (l0 : List Int) (w : World) (h : decide (1048576 < (l0.length : Int)) = true) :
    Calls Try.prog 6 #[.slice A0 l0.length c0] w fun e w' => e = .returned (.bool true) ∧ Below w.heap.size w w' := by
  have hb := big_calls A0 c0 l0 w
  rw [h] at hb
  clear h
  go_enter Try.func6, Try.ntmps6
  go_wp2_with fail
  refine hb.mono ?_
  rintro e w' ⟨rfl, rfl⟩
  go_wp2_with fail
  go_ret
  exact ⟨rfl, Below.refl _ _⟩
theorem shuf13 : (shufR 1 3).length = 3 := by unfold shufR; rw [if_pos (by decide), shufL_len, rng_len]; rfl
theorem R_addr {α : Type} {d : Kd α} {e base b : Nat} {W : World} {ok : Nat → Prop} {v : Value} {xs : List α} (h : d.R e W base ok v xs) (hb : v.ownBlock = some b) : ∃ g c, v = .slice (some ⟨g, 0, none⟩) xs.length c ∧ base ≤ g := by
  obtain ⟨_, inner, ho, _⟩ := h
  rcases ho.2 with ⟨rfl, _⟩ | ⟨g, cap, cur, rfl, hg, _⟩
  · simp [Value.ownBlock] at hb
  · exact ⟨g, cap, rfl, hg⟩
/-- What has been seen so far. -/
def Seen (r : List Int) (n i : Nat) (bs : List Bool) : Prop := bs.length = n ∧ ∀ x : Nat, x < n → (bs.getD x false = true ↔ (x : Int) ∈ r.take i)
theorem Seen.start (r : List Int) (n : Nat) : Seen r n 0 (List.replicate n false) := by
  refine ⟨List.length_replicate, fun x hx => ?_⟩
  simp [List.getD_eq_getElem?_getD, List.getElem?_replicate, hx]
theorem Seen.step {r : List Int} {n i x : Nat} {bs : List Bool} (h : Seen r n i bs) (hi : i < r.length) (hx : r.getD i 0 = x) (hxn : x < n) : Seen r n (i + 1) (bs.set x true) := by
  refine ⟨by rw [List.length_set]; exact h.1, fun y hy => ?_⟩
  rw [List.take_succ_eq_append_getElem hi, List.mem_append, List.mem_singleton, ← h.2 y hy]
  have e : r[i] = (x : Int) := by rw [← hx, List.getD_eq_getElem?_getD, List.getElem?_eq_getElem hi]; rfl
  rw [e]
  have hl := h.1
  by_cases c : y = x
  · subst c
    simp [List.getD_eq_getElem?_getD, hl, hxn]
  · rw [List.getD_eq_getElem?_getD, List.getElem?_set_ne (Ne.symm c), ← List.getD_eq_getElem?_getD]
    constructor
    · exact .inl
    · rintro (h | h)
      · exact h
      · exact absurd (Int.ofNat.inj h) c
theorem Seen.fresh {r : List Int} {n i x : Nat} {bs : List Bool} (h : Seen r n i bs) (hn : r.Nodup) (hi : i < r.length) (hx : r.getD i 0 = x) (hxn : x < n) : bs.getD x false = false := by
  cases c : bs.getD x false with
  | false => rfl
  | true =>
    exfalso
    have hm := (h.2 x hxn).1 c
    have e : r[i] = (x : Int) := by rw [← hx, List.getD_eq_getElem?_getD, List.getElem?_eq_getElem hi]; rfl
    rw [← e] at hm
    obtain ⟨j, hj, hje⟩ := List.getElem_of_mem hm
    rw [List.length_take] at hj
    rw [List.getElem_take] at hje
    have := (List.getElem_inj hn).1 hje
    omega
set_option maxRecDepth 100000 in
set_option maxHeartbeats 1000000 in
theorem rest_ (A0 : Option Addr) (c0 : Nat) (l0 : List Int) (w : World) (h : decide (1048576 < (l0.length : Int)) = false)
    (hr0 : Kd.C (Kd.int .u8) w A0 l0.length l0) (hc0 : l0.length ≤ c0) :
    Calls Try.prog 6 #[.slice A0 l0.length c0] w fun e w' => e = .returned (.bool true) ∧ Below w.heap.size w w' := by
  have hb := big_calls A0 c0 l0 w
  have m0 : l0.length ≤ 140737488351232 := by have := of_decide_eq_false h; omega
  rw [h] at hb
  clear h
  have hd := drawShuffle_calls A0 c0 l0 w hr0 hc0 m0
  go_enter Try.func6, Try.ntmps6
  go_wp2_with fail
  refine hb.mono ?_
  rintro e w' ⟨rfl, rfl⟩
  go_wp2_with fail
  refine hd.mono ?_
  rintro e w1 ⟨s, n, rfl, hB⟩
  have HB := Aside0.mk hB
  clear hb hd hB
  have H13 := shuffle_calls 1 3
  have HSN := shuffle_calls s n
  have hl13 := shuf13
  generalize shufR 1 3 = r13 at *
  go_wp2_with fail
  refine (HSN _).mono ?_
  rintro e w2 ⟨v1, rfl, ho1, hB⟩
  obtain ⟨A1, c1, rfl⟩ := Kd.R_slice ho1
  have HO1 := Aside0.mk (Kd.R_reads' ho1)
  have HB1 := Aside0.mk (below_step HB.out hB)
  clear ho1 hB HB HSN
  go_wp2_with fail
  refine (H13 _).mono ?_
  rintro e w3 ⟨v3, rfl, ho3, hB⟩
  obtain ⟨A3, c3, rfl⟩ := Kd.R_slice ho3
  have HB := Aside0.mk (below_step HB1.out hB)
  have HO := Aside0.mk (Kd.C_below HO1.out.2.2 hB)
  have HC := Aside0.mk HO1.out.2.1
  clear ho3 hB HB1 H13 HO1
  rw [hl13]
  clear hl13
  by_cases hv : stB s = true ∧ 0 ≤ n ∧ n ≤ 4096
  · obtain ⟨N, rfl⟩ := Int.eq_ofNat_of_zero_le hv.2.1
    have hp := shufR_perm s N hv
    rw [Int.toNat_natCast] at hp
    have hlen : (shufR s N).length = N := by rw [hp.length_eq, rng_len]
    have HN := Aside0.mk (hp.nodup_iff.2 (rng_nodup N))
    have HM : Aside0 (∀ x ∈ shufR s N, 0 ≤ x ∧ x < N) := Aside0.mk (fun x hx => (rng_mem N x).1 (hp.mem_iff.1 hx))
    have hN : N ≤ 4096 := by omega
    clear hv hp
    generalize shufR s N = r at *
    by_cases h0 : N = 0
    · subst h0
      have hr : r = [] := List.eq_nil_of_length_eq_zero hlen
      subst hr
      go_wp2_with fail
      go_ret
      exact ⟨rfl, HB.out⟩
    · have d0 : ((N : Int) == 0) = false := by simpa using h0
      rw [hlen] at HO HC
      rw [hlen]
      have HLEN := Aside0.mk hlen
      clear hlen
      go_wp2_with ((with_reducible refine gate_dst (N := 39) rfl ?_); refine Kd.R_make Kd.bool _ 4 rfl (N := 39) rfl 39 _ _ rfl (N : Int) rfl rfl Try.underlying39 (.bool false) 1 (by kernel_rfl) rfl (by decide) (by omega) false (ok := fun _ => True) (okp := fun _ => True) rfl (fun _ hk => hk) trivial (by omega) (by omega) (Below.refl _ _) (Nat.le_refl _) ?_; intro v39 w4 ho hb hg_ hnew; obtain ⟨b4, hnew⟩ := hnew; obtain ⟨hnew, _⟩ := hnew; have HS := Aside0.mk ho; have HB2 := Aside0.mk hb; clear hg_ ho hb; obtain ⟨g, c4, e4, hge⟩ := R_addr HS.out hnew; subst e4; clear hnew)
      have HGE := Aside0.mk hge
      clear hge
      have HS := Aside0.mk (show Kd.R Kd.bool 4 w4 w3.heap.size (fun _ => True) (.slice (some ⟨g, 0, none⟩) N c4) (List.replicate N false) by simpa using HS.out)
      go_loopg [7] N (fun kq v7 wr => ∃ (k : Nat) (bs : List Bool), v7 = .int .i64 k ∧ Aside0 (k + kq = N) ∧ Aside0 (Seen r N k bs) ∧ Aside0 (Kd.R Kd.bool 4 wr w3.heap.size (fun _ => True) (.slice (some ⟨g, 0, none⟩) N c4) bs) ∧ Aside0 (Below w3.heap.size w3 wr))
      case atStart => exact ⟨0, _, rfl, ⟨by omega⟩, ⟨Seen.start r N⟩, ⟨by simpa using HS.out⟩, HB2⟩
      case round =>
        clear HS HB2
        obtain ⟨k, bs, rfl, HA, HS, HR, HB2⟩ := hrel
        by_cases hk : k < N
        · have d1 : decide ((k : Int) < (N : Int)) = true := decide_eq_true (by omega)
          obtain ⟨ad, ea, hx0⟩ := Kd.at_int (HLEN.out.symm ▸ HO.out : Kd.C (Kd.int .i64) w3 A1 r.length r) (k : Int) (by omega) (by rw [HLEN.out]; omega)
          cases ea
          have hx1 := pw_cell_below HB2.out hx0
          rw [Int.toNat_natCast] at hx1
          have hmem : rd r k ∈ r := by
            show r.getD (k : Int).toNat 0 ∈ r
            rw [Int.toNat_natCast, List.getD_eq_getElem?_getD, List.getElem?_eq_getElem (by rw [HLEN.out]; exact hk)]
            exact List.getElem_mem _
          obtain ⟨b0, b1⟩ := HM.out _ hmem
          obtain ⟨x, hx⟩ := Int.eq_ofNat_of_zero_le b0
          rw [hx] at hx1 b1
          have hgd : r.getD k 0 = (x : Int) := by rw [← hx]; show _ = r.getD (k : Int).toNat 0; rw [Int.toNat_natCast]
          have hxn : x < N := by omega
          have hfr := HS.out.fresh HN.out (by rw [HLEN.out]; exact hk) hgd hxn
          have HNX := Aside0.mk (HS.out.step (by rw [HLEN.out]; exact hk) hgd hxn)
          obtain ⟨hc', hf⟩ := Kd.R_celln false HR.out (x : Int) (by omega) (by omega)
          obtain ⟨HP, _⟩ := Kd.R_putg HR.out (x : Int) true
          rw [Int.toNat_natCast] at hc' hf HP
          have hc : wr.cell? ⟨g, x, none⟩ = some (.bool false) := by rw [hc']; show some (Value.bool (bs.getD (x : Int).toNat false)) = _; rw [Int.toNat_natCast, hfr]
          have HP := Aside0.mk HP
          have d2 : decide ((x : Int) < 0) = false := decide_eq_false (by omega)
          have d3 : decide ((N : Int) ≤ (x : Int)) = false := decide_eq_false (by omega)
          have d4 : decide (N ≤ x) = false := decide_eq_false (by omega)
          clear hx0 hmem b0 b1 hx hgd hfr hc'
          go_wp2_with fail
          go_roundg (gk - 1)
          case measure => have := HA.out; omega
          case rel => exact ⟨k + 1, bs.set x true, by go_num, ⟨by have := HA.out; omega⟩, HNX, HP, ⟨below_set HB2.out HGE.out⟩⟩
        · have d1 : decide ((k : Int) < (N : Int)) = false := decide_eq_false (by omega)
          go_wp2_with fail
          go_ret
          exact ⟨by simp, below_step HB.out HB2.out⟩
  · have hr : shufR s n = [] := if_neg hv
    rw [hr]
    clear hr HO HC
    by_cases a1 : n ≤ 0
    · have e1 : decide (n ≤ 0) = true := decide_eq_true a1
      go_wp2_with fail
      go_ret
      exact ⟨rfl, HB.out⟩
    · have e1 : decide (n ≤ 0) = false := decide_eq_false a1
      by_cases a2 : 4096 < n
      · have e2 : decide (4096 < n) = true := decide_eq_true a2
        go_wp2_with fail
        go_ret
        exact ⟨rfl, HB.out⟩
      · have e2 : decide (4096 < n) = false := decide_eq_false a2
        by_cases a3 : s < 0
        · have e3 : decide (s < 0) = true := decide_eq_true a3
          go_wp2_with fail
          go_ret
          exact ⟨rfl, HB.out⟩
        · have e3 : decide (s < 0) = false := decide_eq_false a3
          have e4 : decide (4294967295 < s) = true := by
            refine decide_eq_true ?_
            rcases Int.lt_or_le 4294967295 s with c | c
            · exact c
            · exact absurd ⟨(stB_iff s).2 ⟨by omega, by omega⟩, by omega, by omega⟩ hv
          clear hv
          go_wp2_with fail
          go_ret
          exact ⟨rfl, HB.out⟩
theorem laws_FnShuffled.calls (A0 : Option Addr) (c0 : Nat) (l0 : List Int) (r : Bool) (w : World) (hr0 : Kd.C (Kd.int .u8) w A0 l0.length l0) (hc0 : l0.length ≤ c0) (h : true = r) :
    Calls Try.prog 6 #[.slice A0 l0.length c0] w fun e w' => e = .returned (.bool r) ∧ Below w.heap.size w w' := by
  subst h
  cases h0 : decide (1048576 < (l0.length : Int)) with
  | true => exact big_ A0 c0 l0 w h0
  | false => exact rest_ A0 c0 l0 w h0 hr0 hc0
end Go.Proofs.Ytjgokmnhhcpkcaa.PFnShuffled
namespace Go.Proofs.Ytjgokmnhhcpkcaa.Pure
theorem FnShuffled (l0 : List Int) (_ : l0.length ≤ maxLen) (_ : ∀ x ∈ l0, (Lit.int .u8 x).wf = true) : true = true := rfl
end Go.Proofs.Ytjgokmnhhcpkcaa.Pure
