/- What Joint comes to: the reference's and the program's Joint, walked, with slices.Clone. No condition. -/
import Derived.Test.YtkbbgjoohffooaaPFnExactJointx1
import Derived.Test.YtkbbgjoohffooaaPDimsOkx1
import Derived.Test.YtkbbgjoohffooaaLoop
namespace Go.Proofs.Ytkbbgjoohffooaa.JointP
open Go.RowKit Go.Proofs.Ytkbbgjoohffooaa.Aid Go.Proofs.YtkbbgjoohffooaaW.PrintWords Go.Proofs.YtkbbgjoohffooaaW.PrintLast Go.Proofs.YtkbbgjoohffooaaW.PrintMore
set_option linter.unusedVariables false
set_option linter.unusedSimpArgs false
theorem rd_nat (l : List Int) (i : Nat) : rd l (i : Int) = l.getD i 0 := by unfold rd; rw [Int.toNat_natCast]
/-- One round over the lengths: the product so far, or the end. -/
def dimStep (l : List Int) (i : Nat) (n : Int) : Option Int ⊕ Int :=
  if l.getD i 0 < 1 ∨ l.getD i 0 > 4096 ∨ wrap64 (n * l.getD i 0) > 4096 then .inl none else .inr (wrap64 (n * l.getD i 0))
/-- The product of the lengths, none where one is wrong or it becomes too great. -/
def dimI (l : List Int) : Option Int := Loop.runIx (dimStep l) some l.length 0 1
/-- A product that is there is 1 .. 4096. -/
theorem dim_bd (l : List Int) (x : Int) (h : dimI l = some x) : 1 ≤ x ∧ x ≤ 4096 := by
  have key := Loop.run_inv (dimStep l) some (fun _ n => 1 ≤ n ∧ n ≤ 4096) (fun r => ∀ x, r = some x → 1 ≤ x ∧ x ≤ 4096) l.length
    (by intro i s r _ _ e x hx
        unfold dimStep at e
        split at e
        · cases e; cases hx
        · cases e)
    (by intro i s s' _ hI e
        unfold dimStep at e
        split at e
        · cases e
        · rename_i c
          cases e
          have a1 : 1 ≤ l.getD i 0 ∧ l.getD i 0 ≤ 4096 := by omega
          have a2 : 1 ≤ s * l.getD i 0 := by
            have := Int.mul_le_mul hI.1 a1.1 (by decide) (by omega)
            omega
          have a3 : s * l.getD i 0 ≤ 16777216 := by
            have := Int.mul_le_mul hI.2 a1.2 (by omega) (by decide)
            omega
          rw [wid (by omega) (by omega)] at c ⊢
          omega)
    (by intro s hI x hx; cases hx; exact hI) l.length 0 1 (by omega) ⟨by decide, by decide⟩
  exact key x h
def dimsB (l : List Int) : Bool := decide ((l.length : Int) ≤ 6) && (dimI l).isSome
theorem dims_len (l : List Int) (h : dimsB l = true) : l.length ≤ 6 := by
  unfold dimsB at h
  have := of_decide_eq_true (Bool.and_eq_true_iff.1 h).1
  omega
theorem dims_el (l : List Int) (h : dimsB l = true) (j : Nat) (hj : j < l.length) : 1 ≤ l.getD j 0 ∧ l.getD j 0 ≤ 4096 := by
  unfold dimsB at h
  have h2 := (Bool.and_eq_true_iff.1 h).2
  have key := Loop.run_inv (dimStep l) some (fun i _ => ∀ j, j < i → 1 ≤ l.getD j 0 ∧ l.getD j 0 ≤ 4096) (fun r => r.isSome = true → ∀ j, j < l.length → 1 ≤ l.getD j 0 ∧ l.getD j 0 ≤ 4096) l.length
    (by intro i s r _ _ e hr
        unfold dimStep at e
        split at e
        · cases e; cases hr
        · cases e)
    (by intro i s s' _ hI e j hj
        unfold dimStep at e
        split at e
        · cases e
        · rename_i c
          by_cases g : j = i
          · subst g; omega
          · exact hI j (by omega))
    (by intro s hI _; exact hI) l.length 0 1 (by omega) (by intro j hj; omega)
  exact key h2 j hj
/-- The k-th length from the end; 1 in front of the first. -/
def bk (l : List Int) (k : Nat) : Int := if k ≥ l.length then 1 else l.getD (l.length - 1 - k) 0
def okJ (a b : List Int) (k : Nat) : Bool := decide (bk a k = bk b k) || (decide (bk a k = 1) || decide (bk b k = 1))
def big2 (a b : List Int) (k : Nat) : Int := if bk b k > bk a k then bk b k else bk a k
def outJ (a b : List Int) (n : Nat) : List Int := (List.range n).map (fun i => big2 a b (n - 1 - i))
def jointI (a b : List Int) : List Int :=
  if dimsB a = true ∧ dimsB b = true then (if Loop.allB (okJ a b) (max a.length b.length) 0 = true then (if dimsB (outJ a b (max a.length b.length)) = true then outJ a b (max a.length b.length) else []) else []) else []
theorem outJ_len (a b : List Int) (n : Nat) : (outJ a b n).length = n := by unfold outJ; simp
theorem jointI_len (a b : List Int) : (jointI a b).length ≤ 6 := by
  unfold jointI
  split
  · split
    · split
      · rename_i h; exact dims_len _ h
      · simp
    · simp
  · simp
theorem okJ_comm (a b : List Int) (k : Nat) : okJ a b k = okJ b a k := by
  unfold okJ
  rw [Bool.eq_iff_iff]; simp only [Bool.or_eq_true, decide_eq_true_eq]; omega
theorem big2_comm (a b : List Int) (k : Nat) : big2 a b k = big2 b a k := by unfold big2; split <;> split <;> omega
theorem outJ_comm (a b : List Int) (n : Nat) : outJ a b n = outJ b a n := by unfold outJ; congr 1; funext i; exact big2_comm _ _ _
theorem jointI_comm (a b : List Int) : jointI a b = jointI b a := by
  unfold jointI
  rw [Nat.max_comm, outJ_comm, show okJ a b = okJ b a from funext (okJ_comm a b)]
  by_cases h : dimsB a = true ∧ dimsB b = true
  · rw [if_pos h, if_pos h.symm]
  · rw [if_neg h, if_neg (fun g => h g.symm)]
namespace S
open Go.Proofs.Ytkbbgjoohffooaa.PFnExactJoint
theorem sSize_loop (l : List Int) (hl : l.length ≤ 1048576) : ∀ (d i k : Nat) (n : Int), i + d = l.length → (d + 1) * 2 ≤ k → spec_l3Size.l0 k l n i = some ((Loop.runIx (dimStep l) some d i n).getD 0) := by
  intro d
  induction d with
  | zero =>
    intro i k n h hk
    obtain ⟨k, rfl⟩ : ∃ m, k = m + 1 := ⟨k - 1, by omega⟩
    simp only [spec_l3Size.l0]
    rw [if_neg (by omega)]; rfl
  | succ d ih =>
    intro i k n h hk
    obtain ⟨k, rfl⟩ : ∃ m, k = m + 2 := ⟨k - 2, by omega⟩
    simp only [spec_l3Size.l0, spec_l3Size.j1, Loop.runIx]
    rw [if_pos (show (i : Int) < (l.length : Int) by omega), if_pos (show 0 ≤ (i : Int) by omega), rd_nat, Loop.wsucc i (by omega)]
    by_cases h1 : l.getD i 0 < 1
    · have : dimStep l i n = .inl none := by unfold dimStep; rw [if_pos (.inl h1)]
      rw [if_pos h1, this]; rfl
    · rw [if_neg h1]
      by_cases h2 : l.getD i 0 > 4096
      · have : dimStep l i n = .inl none := by unfold dimStep; rw [if_pos (.inr (.inl h2))]
        rw [this, if_pos (by simpa using h2)]; rfl
      · rw [if_neg (by simpa using h2), if_pos (by omega), if_pos (show (i : Int) < (l.length : Int) by omega)]
        by_cases h3 : wrap64 (n * l.getD i 0) > 4096
        · have : dimStep l i n = .inl none := by unfold dimStep; rw [if_pos (.inr (.inr h3))]
          rw [if_pos h3, this]; rfl
        · have : dimStep l i n = .inr (wrap64 (n * l.getD i 0)) := by unfold dimStep; rw [if_neg (fun c => c.elim h1 (fun c => c.elim h2 h3))]
          rw [if_neg h3, this]
          exact ih (i + 1) k _ (by omega) (by omega)
theorem sSize (l : List Int) (hl : l.length ≤ 1048576) (k : Nat) (hk : (l.length + 1) * 2 ≤ k) : spec_l3Size.f k l = some ((dimI l).getD 0) :=
  sSize_loop l hl l.length 0 k 1 (by omega) hk
theorem sDims (l : List Int) (hl : l.length ≤ 1048576) (k : Nat) (hk : (l.length + 1) * 2 ≤ k) : spec_DimsOk.f k l = some (dimsB l) := by
  unfold spec_DimsOk.f dimsB
  by_cases c : (l.length : Int) ≤ 6
  · rw [if_pos c, sSize l hl k hk]; simp only [Option.bind_some]
    cases e : dimI l with
    | none => simp
    | some x => have := dim_bd l x e; simp [c]; omega
  · rw [if_neg c]; simp [c]
theorem dims_calls (A0 : Option Addr) (c0 : Nat) (l0 : List Int) (w : World) (hr0 : Kd.C (Kd.int .i64) w A0 l0.length l0) (hc0 : l0.length ≤ c0) (hl : l0.length ≤ 1048576) :
    Calls Try.prog 66 #[.slice A0 l0.length c0] w fun e w' => e = .returned (.bool (dimsB l0)) ∧ Drawn0 w w' :=
  spec_DimsOk.calls 3000000 A0 c0 l0 _ w hr0 hc0 (sDims l0 hl _ (by omega))
theorem sBack (l : List Int) (hl : l.length ≤ 1048576) (k : Nat) (hk : k ≤ 1048576) : spec_l3Back.f l k = some (bk l k) := by
  unfold spec_l3Back.f bk
  by_cases c : k ≥ l.length
  · rw [if_pos (by omega), if_pos c]
  · rw [if_neg (by omega), if_neg c, wid (x := (l.length : Int) - 1) (by omega) (by omega), wid (x := (l.length : Int) - 1 - k) (by omega) (by omega), if_pos (by omega), if_pos (by omega), show (l.length : Int) - 1 - k = ((l.length - 1 - k : Nat) : Int) by omega, rd_nat]
theorem back_calls (A0 : Option Addr) (c0 : Nat) (l0 : List Int) (k : Nat) (w : World) (hr0 : Kd.C (Kd.int .i64) w A0 l0.length l0) (hc0 : l0.length ≤ c0) (hl : l0.length ≤ 1048576) (hk : k ≤ 1048576) :
    Calls Try.prog 67 #[.slice A0 l0.length c0, .int .i64 k] w fun e w' => e = .returned (.int .i64 (bk l0 k)) ∧ Drawn0 w w' :=
  spec_l3Back.calls A0 c0 l0 k _ w hr0 hc0 (sBack l0 hl k hk)
end S
namespace I
open Go.Proofs.Ytkbbgjoohffooaa.PDimsOk
theorem iDims_loop (l : List Int) (hl : l.length ≤ 1048576) : ∀ (d i k : Nat) (n : Int), i + d = l.length → (d + 1) * 2 ≤ k → impl_DimsOk.l0 k l n l l.length i = some ((Loop.runIx (dimStep l) some d i n).isSome && decide ((l.length : Int) ≤ 6)) := by
  intro d
  induction d with
  | zero =>
    intro i k n h hk
    obtain ⟨k, rfl⟩ : ∃ m, k = m + 1 := ⟨k - 1, by omega⟩
    simp only [impl_DimsOk.l0]
    rw [if_neg (by omega)]; simp [Loop.runIx]
  | succ d ih =>
    intro i k n h hk
    obtain ⟨k, rfl⟩ : ∃ m, k = m + 2 := ⟨k - 2, by omega⟩
    simp only [impl_DimsOk.l0, impl_DimsOk.j1, Loop.runIx]
    rw [if_pos (show (i : Int) < (l.length : Int) by omega), if_pos (show 0 ≤ (i : Int) by omega), if_pos (show (i : Int) < (l.length : Int) by omega), rd_nat, Loop.wsucc i (by omega)]
    by_cases h1 : l.getD i 0 < 1
    · have : dimStep l i n = .inl none := by unfold dimStep; rw [if_pos (.inl h1)]
      rw [if_pos h1, this]; rfl
    · rw [if_neg h1]
      by_cases h2 : l.getD i 0 > 4096
      · have : dimStep l i n = .inl none := by unfold dimStep; rw [if_pos (.inr (.inl h2))]
        rw [this, if_pos (by simpa using h2)]; rfl
      · rw [if_neg (by simpa using h2)]
        by_cases h3 : wrap64 (n * l.getD i 0) > 4096
        · have : dimStep l i n = .inl none := by unfold dimStep; rw [if_pos (.inr (.inr h3))]
          rw [if_pos h3, this]; rfl
        · have : dimStep l i n = .inr (wrap64 (n * l.getD i 0)) := by unfold dimStep; rw [if_neg (fun c => c.elim h1 (fun c => c.elim h2 h3))]
          rw [if_neg h3, this]
          exact ih (i + 1) k _ (by omega) (by omega)
theorem iDims (l : List Int) (hl : l.length ≤ 1048576) (k : Nat) (hk : (l.length + 1) * 2 ≤ k) : impl_DimsOk.f k l = some (dimsB l) := by
  unfold impl_DimsOk.f dimsB
  rw [show impl_DimsOk.l0 k l 1 l l.length 0 = _ from iDims_loop l hl l.length 0 k 1 (by omega) hk, Bool.and_comm]; rfl
theorem dims_calls (A0 : Option Addr) (c0 : Nat) (l0 : List Int) (w : World) (hr0 : Kd.C (Kd.int .i64) w A0 l0.length l0) (hc0 : l0.length ≤ c0) (hl : l0.length ≤ 1048576) :
    Calls Try.prog 76 #[.slice A0 l0.length c0] w fun e w' => e = .returned (.bool (dimsB l0)) ∧ Drawn0 w w' :=
  impl_DimsOk.calls 3000000 A0 c0 l0 _ w hr0 hc0 (iDims l0 hl _ (by omega))
end I
theorem eql_none (n c : Nat) (w : World) : (binOp .eql 29 (.slice none n c) (.slice none 0 0)).run Try.prog w = .ok (.bool true) w := by kernel_rfl
theorem eql_some (ad : Addr) (n c : Nat) (w : World) : (binOp .eql 29 (.slice (some ad) n c) (.slice none 0 0)).run Try.prog w = .ok (.bool false) w := by kernel_rfl
set_option maxRecDepth 100000 in
set_option maxHeartbeats 1000000 in
theorem clone_calls (A0 : Option Addr) (c0 : Nat) (l0 : List Int) (w : World) (hr0 : Kd.C (Kd.int .i64) w A0 l0.length l0) (hc0 : l0.length ≤ c0) (hl : l0.length ≤ 1048576) :
    Calls Try.prog 77 #[.slice A0 l0.length c0] w fun e w' => ∃ v, e = .returned v ∧ Kd.R (Kd.int .i64) 3 w' w.heap.size (fun _ => True) v l0 ∧ Below w.heap.size w w' := by
  cases A0 with
  | none =>
    obtain rfl : l0 = [] := by
      cases l0 with
      | nil => rfl
      | cons a b => obtain ⟨ad, h, _⟩ := hr0.2.2 (by simp); cases h
    clear hr0
    have hq := eql_none 0 c0
    go_enter Try.func77, Try.ntmps77
    go_wp2_with fail
    go_ret
    exact ⟨_, rfl, Kd.R_nil _ _ _ _ _, Below.refl _ _⟩
  | some ad =>
    have HC := Aside0.mk hr0
    have HB := Aside0.mk (Below.refl w.heap.size w)
    obtain ⟨n, hn⟩ : ∃ n, n = l0.length := ⟨_, rfl⟩
    have HN := Aside0.mk hn
    rw [← hn] at hc0 hl HC ⊢
    clear hr0 hn
    have hq := eql_some ad n c0
    go_enter Try.func77, Try.ntmps77
    go_wp2_with (first
            | ((with_reducible refine gate_dst (N := 5) rfl ?_); refine Kd.R_lit (Kd.int .i64) _ 3 ?hg (N := 5) ?hd (xs := ([] : List Int)) (inner := []) (ok := fun _ => True) (okp := fun _ => True) ?hr ?hp (fun _ hk => hk) trivial (Below.refl _ _) (Nat.le_refl _) (by simp) ?_; (case hd => rfl); (case hg => rfl); (case hr => first | (go_simp; done) | (go_simp; rfl)); (case hp => exact Reps.none _ _); intro v49 w1 ho hb hg_ hnew_; clear hg_ hnew_; have HOW := Aside0.mk (Kd.R_lower ho HB.out.size); have HC1 := Aside0.mk (Kd.C_below HC.out hb); have HB1 := Aside0.mk (below_step HB.out hb); clear ho hb; clear HC HB)
            | ((with_reducible refine gate_dst (N := 7) rfl ?_); refine Kd.R_append_row (fun x => Value.int .i64 x) (0 : Int) w.heap.size rfl (.tmp 5) (.tmp 6) 29 3 (.int .i64 0) 8 rfl Try.underlying29 (by kernel_rfl) rfl (by decide) v49 ([] : List Int) l0 (some ad) n c0 (fun _ => True) rfl rfl (fun _ _ => trivial) HOW.out HC1.out HB1.out HB1.out.size (by simp; omega) ?_; intro v52 w2 ho hb hg_ hnew_; clear hg_ hnew_; have HO2 := Aside0.mk ho; have HB2 := Aside0.mk hb; clear ho hb))
    go_ret
    exact ⟨_, rfl, HO2.out, HB2.out⟩
/-- An empty literal is a row of one's own. -/
theorem R_empty (w : World) (base : Nat) (h : base ≤ w.heap.size) : Kd.R (Kd.int .i64) 3 (w.alloc (.cells #[] 3)) base (fun _ => True) (.slice (some ⟨w.heap.size, 0, none⟩) 0 0) [] :=
  ⟨fun _ _ => trivial, [], World.ownsRow_lit (base := base) (e := 3) (size := 1) w #[] 0 h (by decide) (by simp), Reps.none _ _⟩
theorem R_addr {α : Type} {d : Kd α} {e base b : Nat} {W : World} {ok : Nat → Prop} {v : Value} {xs : List α} (h : d.R e W base ok v xs) (hb : v.ownBlock = some b) : ∃ g c, v = .slice (some ⟨g, 0, none⟩) xs.length c ∧ base ≤ g := by
  obtain ⟨_, inner, ho, _⟩ := h
  rcases ho.2 with ⟨rfl, _⟩ | ⟨g, cap, cur, rfl, hg, _⟩
  · simp [Value.ownBlock] at hb
  · exact ⟨g, cap, rfl, hg⟩
set_option maxRecDepth 100000 in
set_option maxHeartbeats 2000000 in
theorem spec_yes (A0 : Option Addr) (c0 : Nat) (a : List Int) (A1 : Option Addr) (c1 : Nat) (b : List Int) (w : World) (hr0 : Kd.C (Kd.int .i64) w A0 a.length a) (hc0 : a.length ≤ c0) (hr1 : Kd.C (Kd.int .i64) w A1 b.length b) (hc1 : b.length ≤ c1) (ha : dimsB a = true) (hb : dimsB b = true) :
    Calls Try.prog 39 #[.slice A0 a.length c0, .slice A1 b.length c1] w fun e w' => ∃ v, e = .returned v ∧ Kd.R (Kd.int .i64) 3 w' w.heap.size (fun _ => True) v (if Loop.allB (okJ a b) (max a.length b.length) 0 = true then (if dimsB (outJ a b (max a.length b.length)) = true then outJ a b (max a.length b.length) else []) else []) ∧ Below w.heap.size w w' := by
  have sa := dims_len a ha
  have sb := dims_len b hb
  have HA := S.dims_calls A0 c0 a w hr0 hc0 (by omega)
  have HB1 := fun n => S.dims_calls A1 c1 b (w.drewN n) (Kd.C_drewN hr1 n) hc1 (by omega)
  have KA := fun (k : Nat) (W : World) (hk : k ≤ 1048576) (h : Kd.C (Kd.int .i64) W A0 a.length a) => S.back_calls A0 c0 a k W h hc0 (by omega) hk
  have KB := fun (k : Nat) (W : World) (hk : k ≤ 1048576) (h : Kd.C (Kd.int .i64) W A1 b.length b) => S.back_calls A1 c1 b k W h hc1 (by omega) hk
  rw [ha] at HA
  rw [hb] at HB1
  clear ha hb
  have HR0 := Aside0.mk hr0
  have HR1 := Aside0.mk hr1
  clear hr0 hr1
  obtain ⟨la, hla⟩ : ∃ la, la = a.length := ⟨_, rfl⟩
  obtain ⟨lb, hlb⟩ : ∃ lb, lb = b.length := ⟨_, rfl⟩
  have HLA := Aside0.mk hla
  have HLB := Aside0.mk hlb
  rw [← hla] at hc0 sa HA KA HR0
  rw [← hlb] at hc1 sb HB1 KB HR1
  rw [← hla, ← hlb]
  clear hla hlb
  obtain ⟨n, hn⟩ : ∃ n, n = max la lb := ⟨_, rfl⟩
  rw [← hn]
  have hn6 : n ≤ 6 := by omega
  obtain ⟨RES, hres⟩ : ∃ RES, RES = (if Loop.allB (okJ a b) n 0 = true then (if dimsB (outJ a b n) = true then outJ a b n else []) else []) := ⟨_, rfl⟩
  rw [← hres]
  have HRES := Aside0.mk hres
  clear hres
  go_enter Try.func39, Try.ntmps39
  go_wp2_with fail
  refine HA.mono ?_
  rintro e w' ⟨rfl, ⟨nd, rfl⟩⟩
  go_wp2_with fail
  refine (HB1 nd).mono ?_
  rintro e w' ⟨rfl, ⟨nd2, rfl⟩⟩
  clear HA HB1
  by_cases hlt : la < lb
  case' pos =>
    have d1 : decide ((la : Int) < (lb : Int)) = true := decide_eq_true (by omega)
    have d1' : decide (la < lb) = true := decide_eq_true (by omega)
    obtain rfl : lb = n := by omega
  case' neg =>
    have d1 : decide ((la : Int) < (lb : Int)) = false := decide_eq_false (by omega)
    have d1' : decide (la < lb) = false := decide_eq_false (by omega)
    obtain rfl : la = n := by omega
  all_goals
    clear hn hlt
  case pos =>
    have HB := Aside0.mk (pw_below_drewN (Below.refl w.heap.size w) (nd + nd2))
    go_wp2_with ((with_reducible refine gate_dst (N := 28) rfl ?_); refine Kd.R_make (Kd.int .i64) _ 3 rfl (N := 28) rfl 29 _ _ rfl (lb : Int) rfl rfl Try.underlying29 (.int .i64 0) 8 (by kernel_rfl) rfl (by decide) (by omega) 0 (ok := fun _ => True) (okp := fun _ => True) rfl (fun _ hk => hk) trivial (by omega) (by omega) (Below.refl _ _) (Nat.le_refl _) ?_; intro v39 w4 ho hb hg_ hnew; obtain ⟨b4, hnew, _⟩ := hnew; have HS := Aside0.mk (Kd.R_lower ho HB.out.size); have HB2 := Aside0.mk (below_step HB.out hb); clear hg_ ho hb HB; obtain ⟨g, c4, e4, hge⟩ := R_addr HS.out hnew; subst e4; clear hnew)
    have HGE := Aside0.mk hge
    clear hge
    have HS := Aside0.mk (show Kd.R (Kd.int .i64) 3 w4 w.heap.size (fun _ => True) (.slice (some ⟨g, 0, none⟩) lb c4) (List.replicate lb 0) by simpa using HS.out)
    go_loopg [7] lb (fun kq v7 wr => ∃ (k : Nat) (ys : List Int), v7 = .int .i64 k ∧ Aside0 (k + kq = lb ∧ ys.length = lb ∧ (∀ j, j < k → ys.getD (lb - 1 - j) 0 = big2 a b j) ∧ (∀ j, j < k → okJ a b j = true)) ∧ Aside0 (Kd.R (Kd.int .i64) 3 wr w.heap.size (fun _ => True) (.slice (some ⟨g, 0, none⟩) lb c4) ys) ∧ Aside0 (Below w.heap.size w wr))
    case atStart => exact ⟨0, _, rfl, ⟨by omega, List.length_replicate, by intro j h; omega, by intro j h; omega⟩, ⟨by simpa using HS.out⟩, HB2⟩
    case round =>
      clear HS HB2
      obtain ⟨k, ys, rfl, HA, HR, HB2⟩ := hrel
      by_cases hk : k < lb
      · have d2 : decide ((k : Int) < (lb : Int)) = true := decide_eq_true (by omega)
        obtain ⟨x, hx⟩ : ∃ x, bk a k = x := ⟨_, rfl⟩
        obtain ⟨y, hy⟩ : ∃ y, bk b k = y := ⟨_, rfl⟩
        have HX := Aside0.mk hx
        have HY := Aside0.mk hy
        have CA := fun m => KA k (wr.drewN m) (by omega) (Kd.C_drewN (Kd.C_below HR0.out HB2.out) m)
        have CB := fun m => KB k (wr.drewN m) (by omega) (Kd.C_drewN (Kd.C_below HR1.out HB2.out) m)
        rw [hx] at CA
        rw [hy] at CB
        clear hx hy
        go_wp2_with fail
        refine (CA 0).mono ?_
        rintro e w' ⟨rfl, ⟨nd3, rfl⟩⟩
        go_wp2_with fail
        refine (CB nd3).mono ?_
        rintro e w' ⟨rfl, ⟨nd4, rfl⟩⟩
        clear CA CB
        obtain ⟨i0, hi0⟩ : ∃ i0, lb - 1 - k = i0 := ⟨_, rfl⟩
        have hi : (lb : Int) - 1 - (k : Int) = (i0 : Int) := by omega
        have HI := Aside0.mk (And.intro hi0 (show i0 < lb by omega))
        have hb1 : i0 < lb := HI.out.2
        clear hi0
        obtain ⟨hc, hf⟩ := Kd.R_celln 0 (Kd.R_drewN HR.out (nd3 + nd4)) (i0 : Int) (by omega) (by omega)
        rw [Int.toNat_natCast] at hc hf
        by_cases e1 : x = y
        · have t1 : (x == y) = true := beq_iff_eq.mpr e1
          have t2 : (x != y) = false := bne_eq_false_iff_eq.mpr e1
          have HOK := Aside0.mk (show okJ a b k = true by unfold okJ; rw [HX.out, HY.out, decide_eq_true e1]; exact Bool.true_or _)
          have hg : ¬ x < y := by omega
          clear e1
          have g1 : decide (x < y) = false := decide_eq_false hg
          obtain ⟨M, hM⟩ : ∃ M, M = x := ⟨_, rfl⟩
          have HM := Aside0.mk (show big2 a b k = M by unfold big2; rw [HX.out, HY.out, if_neg hg, hM])
          subst hM
          clear hg
          have HP := Aside0.mk (Kd.R_putg (Kd.R_drewN HR.out (nd3 + nd4)) (i0 : Int) M).1
          rw [Int.toNat_natCast] at HP
          go_wp2_with fail
          go_roundg (gk - 1)
          case measure => have := HA.out; omega
          case rel =>
            refine ⟨k + 1, ys.set i0 M, by go_num, ⟨by have := HA.out; omega, by rw [List.length_set]; exact HA.out.2.1, fun j hj => ?_, fun j hj => ?_⟩, HP, ⟨below_set (pw_below_drewN HB2.out (nd3 + nd4)) HGE.out⟩⟩
            · by_cases e : j = k
              · rw [e, HI.out.1, Loop.getD_set_eq _ _ _ _ (by rw [HA.out.2.1]; exact HI.out.2)]; exact HM.out.symm
              · rw [Loop.getD_set_ne _ _ _ _ _ (by have := HI.out; have := HA.out; omega)]; exact HA.out.2.2.1 j (by omega)
            · by_cases e : j = k
              · rw [e]; exact HOK.out
              · exact HA.out.2.2.2 j (by omega)
        · by_cases e2 : x = 1
          · have t1 : (x == y) = false := beq_eq_false_iff_ne.mpr e1
            have t2 : (x != y) = true := bne_iff_ne.mpr e1
            have t3 : (x == 1) = true := beq_iff_eq.mpr e2
            have t4 : (x != 1) = false := bne_eq_false_iff_eq.mpr e2
            have HOK := Aside0.mk (show okJ a b k = true by unfold okJ; rw [HX.out, HY.out, decide_eq_true e2]; simp)
            clear e1 e2
            by_cases hg : x < y
            · have g1 : decide (x < y) = true := decide_eq_true hg
              obtain ⟨M, hM⟩ : ∃ M, M = y := ⟨_, rfl⟩
              have HM := Aside0.mk (show big2 a b k = M by unfold big2; rw [HX.out, HY.out, if_pos hg, hM])
              subst hM
              clear hg
              have HP := Aside0.mk (Kd.R_putg (Kd.R_drewN HR.out (nd3 + nd4)) (i0 : Int) M).1
              rw [Int.toNat_natCast] at HP
              go_wp2_with fail
              go_roundg (gk - 1)
              case measure => have := HA.out; omega
              case rel =>
                refine ⟨k + 1, ys.set i0 M, by go_num, ⟨by have := HA.out; omega, by rw [List.length_set]; exact HA.out.2.1, fun j hj => ?_, fun j hj => ?_⟩, HP, ⟨below_set (pw_below_drewN HB2.out (nd3 + nd4)) HGE.out⟩⟩
                · by_cases e : j = k
                  · rw [e, HI.out.1, Loop.getD_set_eq _ _ _ _ (by rw [HA.out.2.1]; exact HI.out.2)]; exact HM.out.symm
                  · rw [Loop.getD_set_ne _ _ _ _ _ (by have := HI.out; have := HA.out; omega)]; exact HA.out.2.2.1 j (by omega)
                · by_cases e : j = k
                  · rw [e]; exact HOK.out
                  · exact HA.out.2.2.2 j (by omega)
            · have g1 : decide (x < y) = false := decide_eq_false hg
              obtain ⟨M, hM⟩ : ∃ M, M = x := ⟨_, rfl⟩
              have HM := Aside0.mk (show big2 a b k = M by unfold big2; rw [HX.out, HY.out, if_neg hg, hM])
              subst hM
              clear hg
              have HP := Aside0.mk (Kd.R_putg (Kd.R_drewN HR.out (nd3 + nd4)) (i0 : Int) M).1
              rw [Int.toNat_natCast] at HP
              go_wp2_with fail
              go_roundg (gk - 1)
              case measure => have := HA.out; omega
              case rel =>
                refine ⟨k + 1, ys.set i0 M, by go_num, ⟨by have := HA.out; omega, by rw [List.length_set]; exact HA.out.2.1, fun j hj => ?_, fun j hj => ?_⟩, HP, ⟨below_set (pw_below_drewN HB2.out (nd3 + nd4)) HGE.out⟩⟩
                · by_cases e : j = k
                  · rw [e, HI.out.1, Loop.getD_set_eq _ _ _ _ (by rw [HA.out.2.1]; exact HI.out.2)]; exact HM.out.symm
                  · rw [Loop.getD_set_ne _ _ _ _ _ (by have := HI.out; have := HA.out; omega)]; exact HA.out.2.2.1 j (by omega)
                · by_cases e : j = k
                  · rw [e]; exact HOK.out
                  · exact HA.out.2.2.2 j (by omega)
          · by_cases e3 : y = 1
            · have t1 : (x == y) = false := beq_eq_false_iff_ne.mpr e1
              have t2 : (x != y) = true := bne_iff_ne.mpr e1
              have t3 : (x == 1) = false := beq_eq_false_iff_ne.mpr e2
              have t4 : (x != 1) = true := bne_iff_ne.mpr e2
              have t5 : (y == 1) = true := beq_iff_eq.mpr e3
              have t6 : (y != 1) = false := bne_eq_false_iff_eq.mpr e3
              have HOK := Aside0.mk (show okJ a b k = true by unfold okJ; rw [HX.out, HY.out, decide_eq_true e3]; simp)
              clear e1 e2 e3
              by_cases hg : x < y
              · have g1 : decide (x < y) = true := decide_eq_true hg
                obtain ⟨M, hM⟩ : ∃ M, M = y := ⟨_, rfl⟩
                have HM := Aside0.mk (show big2 a b k = M by unfold big2; rw [HX.out, HY.out, if_pos hg, hM])
                subst hM
                clear hg
                have HP := Aside0.mk (Kd.R_putg (Kd.R_drewN HR.out (nd3 + nd4)) (i0 : Int) M).1
                rw [Int.toNat_natCast] at HP
                go_wp2_with fail
                go_roundg (gk - 1)
                case measure => have := HA.out; omega
                case rel =>
                  refine ⟨k + 1, ys.set i0 M, by go_num, ⟨by have := HA.out; omega, by rw [List.length_set]; exact HA.out.2.1, fun j hj => ?_, fun j hj => ?_⟩, HP, ⟨below_set (pw_below_drewN HB2.out (nd3 + nd4)) HGE.out⟩⟩
                  · by_cases e : j = k
                    · rw [e, HI.out.1, Loop.getD_set_eq _ _ _ _ (by rw [HA.out.2.1]; exact HI.out.2)]; exact HM.out.symm
                    · rw [Loop.getD_set_ne _ _ _ _ _ (by have := HI.out; have := HA.out; omega)]; exact HA.out.2.2.1 j (by omega)
                  · by_cases e : j = k
                    · rw [e]; exact HOK.out
                    · exact HA.out.2.2.2 j (by omega)
              · have g1 : decide (x < y) = false := decide_eq_false hg
                obtain ⟨M, hM⟩ : ∃ M, M = x := ⟨_, rfl⟩
                have HM := Aside0.mk (show big2 a b k = M by unfold big2; rw [HX.out, HY.out, if_neg hg, hM])
                subst hM
                clear hg
                have HP := Aside0.mk (Kd.R_putg (Kd.R_drewN HR.out (nd3 + nd4)) (i0 : Int) M).1
                rw [Int.toNat_natCast] at HP
                go_wp2_with fail
                go_roundg (gk - 1)
                case measure => have := HA.out; omega
                case rel =>
                  refine ⟨k + 1, ys.set i0 M, by go_num, ⟨by have := HA.out; omega, by rw [List.length_set]; exact HA.out.2.1, fun j hj => ?_, fun j hj => ?_⟩, HP, ⟨below_set (pw_below_drewN HB2.out (nd3 + nd4)) HGE.out⟩⟩
                  · by_cases e : j = k
                    · rw [e, HI.out.1, Loop.getD_set_eq _ _ _ _ (by rw [HA.out.2.1]; exact HI.out.2)]; exact HM.out.symm
                    · rw [Loop.getD_set_ne _ _ _ _ _ (by have := HI.out; have := HA.out; omega)]; exact HA.out.2.2.1 j (by omega)
                  · by_cases e : j = k
                    · rw [e]; exact HOK.out
                    · exact HA.out.2.2.2 j (by omega)
            · have t1 : (x == y) = false := beq_eq_false_iff_ne.mpr e1
              have t2 : (x != y) = true := bne_iff_ne.mpr e1
              have t3 : (x == 1) = false := beq_eq_false_iff_ne.mpr e2
              have t4 : (x != 1) = true := bne_iff_ne.mpr e2
              have t5 : (y == 1) = false := beq_eq_false_iff_ne.mpr e3
              have t6 : (y != 1) = true := bne_iff_ne.mpr e3
              have HNO := Aside0.mk (show ¬ Loop.allB (okJ a b) lb 0 = true by
                intro hh
                have h1 := (Loop.allB_iff _ _ _).1 hh k (by omega) (by omega)
                unfold okJ at h1
                rw [HX.out, HY.out, decide_eq_false e1, decide_eq_false e2, decide_eq_false e3] at h1
                exact absurd h1 (by decide))
              clear e1 e2 e3
              go_wp2_with fail
              go_ret
              refine ⟨_, rfl, ?_, ?_⟩
              · rw [HRES.out, if_neg HNO.out]
                exact R_empty _ _ (pw_below_drewN HB2.out (nd3 + nd4)).size
              · exact below_alloc (pw_below_drewN HB2.out (nd3 + nd4)) _
      · have d2 : decide ((k : Int) < (lb : Int)) = false := decide_eq_false (by omega)
        have HE := Aside0.mk (show Loop.allB (okJ a b) lb 0 = true from (Loop.allB_iff _ _ _).2 fun j _ hj => HA.out.2.2.2 j (by have := HA.out; omega))
        have HYS := Aside0.mk (show ys = outJ a b lb by
          refine List.ext_getElem (by rw [outJ_len]; exact HA.out.2.1) fun j h1 h2 => ?_
          have hl := HA.out.2.1
          have h3 := HA.out.2.2.1 (lb - 1 - j) (by have := HA.out; omega)
          rw [show lb - 1 - (lb - 1 - j) = j by omega, Loop.getD_lt _ _ _ h1] at h3
          rw [h3]; simp [outJ])
        have hR := HYS.out ▸ HR.out
        have hrd := Kd.R_reads' hR
        have HD := S.dims_calls (some ⟨g, 0, none⟩) c4 (outJ a b lb) wr hrd.2.2 (by rw [← hrd.1]; exact hrd.2.1) (by rw [outJ_len]; omega)
        rw [outJ_len] at HD
        have HRR := Aside0.mk hR
        clear hR hrd
        cases hdd : dimsB (outJ a b lb) with
        | true =>
          rw [hdd] at HD
          have HDD := Aside0.mk hdd
          clear hdd
          go_wp2_with fail
          refine HD.mono ?_
          rintro e w' ⟨rfl, ⟨nd3, rfl⟩⟩
          go_wp2_with fail
          go_ret
          refine ⟨_, rfl, ?_, pw_below_drewN HB2.out nd3⟩
          rw [HRES.out, if_pos HE.out, if_pos HDD.out]
          exact Kd.R_drewN HRR.out nd3
        | false =>
          rw [hdd] at HD
          have HDD := Aside0.mk hdd
          clear hdd
          go_wp2_with fail
          refine HD.mono ?_
          rintro e w' ⟨rfl, ⟨nd3, rfl⟩⟩
          go_wp2_with fail
          go_ret
          refine ⟨_, rfl, ?_, below_alloc (pw_below_drewN HB2.out nd3) _⟩
          rw [HRES.out, if_pos HE.out, if_neg (by rw [HDD.out]; decide)]
          exact R_empty _ _ (pw_below_drewN HB2.out nd3).size
  case neg =>
    have HB := Aside0.mk (pw_below_drewN (Below.refl w.heap.size w) (nd + nd2))
    go_wp2_with ((with_reducible refine gate_dst (N := 28) rfl ?_); refine Kd.R_make (Kd.int .i64) _ 3 rfl (N := 28) rfl 29 _ _ rfl (la : Int) rfl rfl Try.underlying29 (.int .i64 0) 8 (by kernel_rfl) rfl (by decide) (by omega) 0 (ok := fun _ => True) (okp := fun _ => True) rfl (fun _ hk => hk) trivial (by omega) (by omega) (Below.refl _ _) (Nat.le_refl _) ?_; intro v39 w4 ho hb hg_ hnew; obtain ⟨b4, hnew, _⟩ := hnew; have HS := Aside0.mk (Kd.R_lower ho HB.out.size); have HB2 := Aside0.mk (below_step HB.out hb); clear hg_ ho hb HB; obtain ⟨g, c4, e4, hge⟩ := R_addr HS.out hnew; subst e4; clear hnew)
    have HGE := Aside0.mk hge
    clear hge
    have HS := Aside0.mk (show Kd.R (Kd.int .i64) 3 w4 w.heap.size (fun _ => True) (.slice (some ⟨g, 0, none⟩) la c4) (List.replicate la 0) by simpa using HS.out)
    go_loopg [7] la (fun kq v7 wr => ∃ (k : Nat) (ys : List Int), v7 = .int .i64 k ∧ Aside0 (k + kq = la ∧ ys.length = la ∧ (∀ j, j < k → ys.getD (la - 1 - j) 0 = big2 a b j) ∧ (∀ j, j < k → okJ a b j = true)) ∧ Aside0 (Kd.R (Kd.int .i64) 3 wr w.heap.size (fun _ => True) (.slice (some ⟨g, 0, none⟩) la c4) ys) ∧ Aside0 (Below w.heap.size w wr))
    case atStart => exact ⟨0, _, rfl, ⟨by omega, List.length_replicate, by intro j h; omega, by intro j h; omega⟩, ⟨by simpa using HS.out⟩, HB2⟩
    case round =>
      clear HS HB2
      obtain ⟨k, ys, rfl, HA, HR, HB2⟩ := hrel
      by_cases hk : k < la
      · have d2 : decide ((k : Int) < (la : Int)) = true := decide_eq_true (by omega)
        obtain ⟨x, hx⟩ : ∃ x, bk a k = x := ⟨_, rfl⟩
        obtain ⟨y, hy⟩ : ∃ y, bk b k = y := ⟨_, rfl⟩
        have HX := Aside0.mk hx
        have HY := Aside0.mk hy
        have CA := fun m => KA k (wr.drewN m) (by omega) (Kd.C_drewN (Kd.C_below HR0.out HB2.out) m)
        have CB := fun m => KB k (wr.drewN m) (by omega) (Kd.C_drewN (Kd.C_below HR1.out HB2.out) m)
        rw [hx] at CA
        rw [hy] at CB
        clear hx hy
        go_wp2_with fail
        refine (CA 0).mono ?_
        rintro e w' ⟨rfl, ⟨nd3, rfl⟩⟩
        go_wp2_with fail
        refine (CB nd3).mono ?_
        rintro e w' ⟨rfl, ⟨nd4, rfl⟩⟩
        clear CA CB
        obtain ⟨i0, hi0⟩ : ∃ i0, la - 1 - k = i0 := ⟨_, rfl⟩
        have hi : (la : Int) - 1 - (k : Int) = (i0 : Int) := by omega
        have HI := Aside0.mk (And.intro hi0 (show i0 < la by omega))
        have hb1 : i0 < la := HI.out.2
        clear hi0
        obtain ⟨hc, hf⟩ := Kd.R_celln 0 (Kd.R_drewN HR.out (nd3 + nd4)) (i0 : Int) (by omega) (by omega)
        rw [Int.toNat_natCast] at hc hf
        by_cases e1 : x = y
        · have t1 : (x == y) = true := beq_iff_eq.mpr e1
          have t2 : (x != y) = false := bne_eq_false_iff_eq.mpr e1
          have HOK := Aside0.mk (show okJ a b k = true by unfold okJ; rw [HX.out, HY.out, decide_eq_true e1]; exact Bool.true_or _)
          have hg : ¬ x < y := by omega
          clear e1
          have g1 : decide (x < y) = false := decide_eq_false hg
          obtain ⟨M, hM⟩ : ∃ M, M = x := ⟨_, rfl⟩
          have HM := Aside0.mk (show big2 a b k = M by unfold big2; rw [HX.out, HY.out, if_neg hg, hM])
          subst hM
          clear hg
          have HP := Aside0.mk (Kd.R_putg (Kd.R_drewN HR.out (nd3 + nd4)) (i0 : Int) M).1
          rw [Int.toNat_natCast] at HP
          go_wp2_with fail
          go_roundg (gk - 1)
          case measure => have := HA.out; omega
          case rel =>
            refine ⟨k + 1, ys.set i0 M, by go_num, ⟨by have := HA.out; omega, by rw [List.length_set]; exact HA.out.2.1, fun j hj => ?_, fun j hj => ?_⟩, HP, ⟨below_set (pw_below_drewN HB2.out (nd3 + nd4)) HGE.out⟩⟩
            · by_cases e : j = k
              · rw [e, HI.out.1, Loop.getD_set_eq _ _ _ _ (by rw [HA.out.2.1]; exact HI.out.2)]; exact HM.out.symm
              · rw [Loop.getD_set_ne _ _ _ _ _ (by have := HI.out; have := HA.out; omega)]; exact HA.out.2.2.1 j (by omega)
            · by_cases e : j = k
              · rw [e]; exact HOK.out
              · exact HA.out.2.2.2 j (by omega)
        · by_cases e2 : x = 1
          · have t1 : (x == y) = false := beq_eq_false_iff_ne.mpr e1
            have t2 : (x != y) = true := bne_iff_ne.mpr e1
            have t3 : (x == 1) = true := beq_iff_eq.mpr e2
            have t4 : (x != 1) = false := bne_eq_false_iff_eq.mpr e2
            have HOK := Aside0.mk (show okJ a b k = true by unfold okJ; rw [HX.out, HY.out, decide_eq_true e2]; simp)
            clear e1 e2
            by_cases hg : x < y
            · have g1 : decide (x < y) = true := decide_eq_true hg
              obtain ⟨M, hM⟩ : ∃ M, M = y := ⟨_, rfl⟩
              have HM := Aside0.mk (show big2 a b k = M by unfold big2; rw [HX.out, HY.out, if_pos hg, hM])
              subst hM
              clear hg
              have HP := Aside0.mk (Kd.R_putg (Kd.R_drewN HR.out (nd3 + nd4)) (i0 : Int) M).1
              rw [Int.toNat_natCast] at HP
              go_wp2_with fail
              go_roundg (gk - 1)
              case measure => have := HA.out; omega
              case rel =>
                refine ⟨k + 1, ys.set i0 M, by go_num, ⟨by have := HA.out; omega, by rw [List.length_set]; exact HA.out.2.1, fun j hj => ?_, fun j hj => ?_⟩, HP, ⟨below_set (pw_below_drewN HB2.out (nd3 + nd4)) HGE.out⟩⟩
                · by_cases e : j = k
                  · rw [e, HI.out.1, Loop.getD_set_eq _ _ _ _ (by rw [HA.out.2.1]; exact HI.out.2)]; exact HM.out.symm
                  · rw [Loop.getD_set_ne _ _ _ _ _ (by have := HI.out; have := HA.out; omega)]; exact HA.out.2.2.1 j (by omega)
                · by_cases e : j = k
                  · rw [e]; exact HOK.out
                  · exact HA.out.2.2.2 j (by omega)
            · have g1 : decide (x < y) = false := decide_eq_false hg
              obtain ⟨M, hM⟩ : ∃ M, M = x := ⟨_, rfl⟩
              have HM := Aside0.mk (show big2 a b k = M by unfold big2; rw [HX.out, HY.out, if_neg hg, hM])
              subst hM
              clear hg
              have HP := Aside0.mk (Kd.R_putg (Kd.R_drewN HR.out (nd3 + nd4)) (i0 : Int) M).1
              rw [Int.toNat_natCast] at HP
              go_wp2_with fail
              go_roundg (gk - 1)
              case measure => have := HA.out; omega
              case rel =>
                refine ⟨k + 1, ys.set i0 M, by go_num, ⟨by have := HA.out; omega, by rw [List.length_set]; exact HA.out.2.1, fun j hj => ?_, fun j hj => ?_⟩, HP, ⟨below_set (pw_below_drewN HB2.out (nd3 + nd4)) HGE.out⟩⟩
                · by_cases e : j = k
                  · rw [e, HI.out.1, Loop.getD_set_eq _ _ _ _ (by rw [HA.out.2.1]; exact HI.out.2)]; exact HM.out.symm
                  · rw [Loop.getD_set_ne _ _ _ _ _ (by have := HI.out; have := HA.out; omega)]; exact HA.out.2.2.1 j (by omega)
                · by_cases e : j = k
                  · rw [e]; exact HOK.out
                  · exact HA.out.2.2.2 j (by omega)
          · by_cases e3 : y = 1
            · have t1 : (x == y) = false := beq_eq_false_iff_ne.mpr e1
              have t2 : (x != y) = true := bne_iff_ne.mpr e1
              have t3 : (x == 1) = false := beq_eq_false_iff_ne.mpr e2
              have t4 : (x != 1) = true := bne_iff_ne.mpr e2
              have t5 : (y == 1) = true := beq_iff_eq.mpr e3
              have t6 : (y != 1) = false := bne_eq_false_iff_eq.mpr e3
              have HOK := Aside0.mk (show okJ a b k = true by unfold okJ; rw [HX.out, HY.out, decide_eq_true e3]; simp)
              clear e1 e2 e3
              by_cases hg : x < y
              · have g1 : decide (x < y) = true := decide_eq_true hg
                obtain ⟨M, hM⟩ : ∃ M, M = y := ⟨_, rfl⟩
                have HM := Aside0.mk (show big2 a b k = M by unfold big2; rw [HX.out, HY.out, if_pos hg, hM])
                subst hM
                clear hg
                have HP := Aside0.mk (Kd.R_putg (Kd.R_drewN HR.out (nd3 + nd4)) (i0 : Int) M).1
                rw [Int.toNat_natCast] at HP
                go_wp2_with fail
                go_roundg (gk - 1)
                case measure => have := HA.out; omega
                case rel =>
                  refine ⟨k + 1, ys.set i0 M, by go_num, ⟨by have := HA.out; omega, by rw [List.length_set]; exact HA.out.2.1, fun j hj => ?_, fun j hj => ?_⟩, HP, ⟨below_set (pw_below_drewN HB2.out (nd3 + nd4)) HGE.out⟩⟩
                  · by_cases e : j = k
                    · rw [e, HI.out.1, Loop.getD_set_eq _ _ _ _ (by rw [HA.out.2.1]; exact HI.out.2)]; exact HM.out.symm
                    · rw [Loop.getD_set_ne _ _ _ _ _ (by have := HI.out; have := HA.out; omega)]; exact HA.out.2.2.1 j (by omega)
                  · by_cases e : j = k
                    · rw [e]; exact HOK.out
                    · exact HA.out.2.2.2 j (by omega)
              · have g1 : decide (x < y) = false := decide_eq_false hg
                obtain ⟨M, hM⟩ : ∃ M, M = x := ⟨_, rfl⟩
                have HM := Aside0.mk (show big2 a b k = M by unfold big2; rw [HX.out, HY.out, if_neg hg, hM])
                subst hM
                clear hg
                have HP := Aside0.mk (Kd.R_putg (Kd.R_drewN HR.out (nd3 + nd4)) (i0 : Int) M).1
                rw [Int.toNat_natCast] at HP
                go_wp2_with fail
                go_roundg (gk - 1)
                case measure => have := HA.out; omega
                case rel =>
                  refine ⟨k + 1, ys.set i0 M, by go_num, ⟨by have := HA.out; omega, by rw [List.length_set]; exact HA.out.2.1, fun j hj => ?_, fun j hj => ?_⟩, HP, ⟨below_set (pw_below_drewN HB2.out (nd3 + nd4)) HGE.out⟩⟩
                  · by_cases e : j = k
                    · rw [e, HI.out.1, Loop.getD_set_eq _ _ _ _ (by rw [HA.out.2.1]; exact HI.out.2)]; exact HM.out.symm
                    · rw [Loop.getD_set_ne _ _ _ _ _ (by have := HI.out; have := HA.out; omega)]; exact HA.out.2.2.1 j (by omega)
                  · by_cases e : j = k
                    · rw [e]; exact HOK.out
                    · exact HA.out.2.2.2 j (by omega)
            · have t1 : (x == y) = false := beq_eq_false_iff_ne.mpr e1
              have t2 : (x != y) = true := bne_iff_ne.mpr e1
              have t3 : (x == 1) = false := beq_eq_false_iff_ne.mpr e2
              have t4 : (x != 1) = true := bne_iff_ne.mpr e2
              have t5 : (y == 1) = false := beq_eq_false_iff_ne.mpr e3
              have t6 : (y != 1) = true := bne_iff_ne.mpr e3
              have HNO := Aside0.mk (show ¬ Loop.allB (okJ a b) la 0 = true by
                intro hh
                have h1 := (Loop.allB_iff _ _ _).1 hh k (by omega) (by omega)
                unfold okJ at h1
                rw [HX.out, HY.out, decide_eq_false e1, decide_eq_false e2, decide_eq_false e3] at h1
                exact absurd h1 (by decide))
              clear e1 e2 e3
              go_wp2_with fail
              go_ret
              refine ⟨_, rfl, ?_, ?_⟩
              · rw [HRES.out, if_neg HNO.out]
                exact R_empty _ _ (pw_below_drewN HB2.out (nd3 + nd4)).size
              · exact below_alloc (pw_below_drewN HB2.out (nd3 + nd4)) _
      · have d2 : decide ((k : Int) < (la : Int)) = false := decide_eq_false (by omega)
        have HE := Aside0.mk (show Loop.allB (okJ a b) la 0 = true from (Loop.allB_iff _ _ _).2 fun j _ hj => HA.out.2.2.2 j (by have := HA.out; omega))
        have HYS := Aside0.mk (show ys = outJ a b la by
          refine List.ext_getElem (by rw [outJ_len]; exact HA.out.2.1) fun j h1 h2 => ?_
          have hl := HA.out.2.1
          have h3 := HA.out.2.2.1 (la - 1 - j) (by have := HA.out; omega)
          rw [show la - 1 - (la - 1 - j) = j by omega, Loop.getD_lt _ _ _ h1] at h3
          rw [h3]; simp [outJ])
        have hR := HYS.out ▸ HR.out
        have hrd := Kd.R_reads' hR
        have HD := S.dims_calls (some ⟨g, 0, none⟩) c4 (outJ a b la) wr hrd.2.2 (by rw [← hrd.1]; exact hrd.2.1) (by rw [outJ_len]; omega)
        rw [outJ_len] at HD
        have HRR := Aside0.mk hR
        clear hR hrd
        cases hdd : dimsB (outJ a b la) with
        | true =>
          rw [hdd] at HD
          have HDD := Aside0.mk hdd
          clear hdd
          go_wp2_with fail
          refine HD.mono ?_
          rintro e w' ⟨rfl, ⟨nd3, rfl⟩⟩
          go_wp2_with fail
          go_ret
          refine ⟨_, rfl, ?_, pw_below_drewN HB2.out nd3⟩
          rw [HRES.out, if_pos HE.out, if_pos HDD.out]
          exact Kd.R_drewN HRR.out nd3
        | false =>
          rw [hdd] at HD
          have HDD := Aside0.mk hdd
          clear hdd
          go_wp2_with fail
          refine HD.mono ?_
          rintro e w' ⟨rfl, ⟨nd3, rfl⟩⟩
          go_wp2_with fail
          go_ret
          refine ⟨_, rfl, ?_, below_alloc (pw_below_drewN HB2.out nd3) _⟩
          rw [HRES.out, if_pos HE.out, if_neg (by rw [HDD.out]; decide)]
          exact R_empty _ _ (pw_below_drewN HB2.out nd3).size
def JP (t : Bool) (ys res : List Int) : Prop := res = if t = true then ys else []
theorem bkX (X : List Int) (i k : Nat) (hi : i < X.length) (hk : k = X.length - 1 - i) : bk X k = X.getD i 0 := by
  unfold bk
  rw [if_neg (by omega), show X.length - 1 - k = i by omega]
/-- The walk of joint behind its tests, X the longer one. -/
theorem joint_end (X Y : List Int) (hX : dimsB X = true) (hY : dimsB Y = true) (hl : Y.length ≤ X.length) (ys : List Int) (h1 : ys.length = X.length)
    (h2 : ∀ j, j < X.length → ys.getD j 0 = if X.length - Y.length ≤ j then big2 X Y (X.length - 1 - j) else X.getD j 0) (h3 : ∀ j, j < Y.length → okJ X Y (Y.length - 1 - j) = true) :
    ys = outJ X Y X.length ∧ Loop.allB (okJ X Y) X.length 0 = true := by
  refine ⟨List.ext_getElem (by rw [outJ_len]; exact h1) fun j a b => ?_, (Loop.allB_iff _ _ _).2 fun j _ hj => ?_⟩
  · have h := h2 j (by omega)
    rw [Loop.getD_lt _ _ _ a] at h
    have e : (outJ X Y X.length)[j] = big2 X Y (X.length - 1 - j) := by simp [outJ]
    rw [h, e]
    split
    · rfl
    · have hx := dims_el X hX j (by omega)
      unfold big2
      rw [bkX X j _ (by omega) rfl, show bk Y (X.length - 1 - j) = 1 by unfold bk; rw [if_pos (by omega)], if_neg (by omega)]
  · by_cases c : j < Y.length
    · have := h3 (Y.length - 1 - j) (by omega)
      rwa [show Y.length - 1 - (Y.length - 1 - j) = j by omega] at this
    · unfold okJ
      rw [show bk Y j = 1 by unfold bk; rw [if_pos (by omega)]]; simp
end Go.Proofs.Ytkbbgjoohffooaa.JointP
