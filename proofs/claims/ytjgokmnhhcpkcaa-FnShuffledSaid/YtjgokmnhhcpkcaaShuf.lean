/- impl.Shuffle, walked: whatever the seed and the number, it returns a row of its own that holds the shuffle. No condition. -/
import Derived.Test.YtjgokmnhhcpkcaaPFnExactShufflex1
import Derived.Test.YtjgokmnhhcpkcaaPFnExactShufflex2
import Derived.Test.YtjgokmnhhcpkcaaAid
import Derived.Deep.WholeRow
import Derived.RegionTactic
import Derived.BigRegion
import Derived.ChangeAlike
namespace Go.Proofs.Ytjgokmnhhcpkcaa.Shuf
open Go.RowKit Go.Proofs.Ytjgokmnhhcpkcaa.Aid Go.Proofs.Ytjgokmnhhcpkcaa.PFnExactShuffle Go.Proofs.YtjgokmnhhcpkcaaW.PrintWords Go.Proofs.YtjgokmnhhcpkcaaW.PrintLast Go.Proofs.YtjgokmnhhcpkcaaW.PrintMore
set_option linter.unusedVariables false
set_option linter.unusedSimpArgs false
def inB (a b c : Int) : Bool := decide (b ≤ a) && decide (a ≤ c)
theorem inB_iff (a b c : Int) : inB a b c = true ↔ b ≤ a ∧ a ≤ c := by unfold inB; simp
theorem inB_not (a b c : Int) : inB a b c = false ↔ ¬ (b ≤ a ∧ a ≤ c) := by rw [← inB_iff]; simp
theorem in_body (a b c : Int) : (if a ≥ b then (some (decide (a ≤ c))) else (some false)) = some (inB a b c) := by
  unfold inB
  by_cases h : b ≤ a
  · rw [if_pos h]; simp [h]
  · rw [if_neg h]; simp [h]
theorem ite_and (b c : Bool) : (if b = true then some c else some false) = some (b && c) := by cases b <;> rfl
theorem ite_same {α : Type} (b : Bool) (x : α) : (if b = true then x else x) = x := by cases b <;> rfl
theorem iIn (a b c : Int) : impl_within.f a b c = some (inB a b c) := in_body a b c
theorem sIn (a b c : Int) : spec_l5In.f a b c = some (inB a b c) := in_body a b c
def stB (a : Int) : Bool := decide (0 ≤ a) && decide (a < 4294967296)
theorem stB_iff (a : Int) : stB a = true ↔ 0 ≤ a ∧ a < 4294967296 := by unfold stB; simp
theorem st_body (a : Int) : (if a ≥ 0 then (some (decide (a < 4294967296))) else (some false)) = some (stB a) := by
  unfold stB
  by_cases h : 0 ≤ a
  · rw [if_pos h]; simp [h]
  · rw [if_neg h]; simp [h]
theorem sSt (a : Int) : spec_l16State.f a = some (stB a) := st_body a
theorem iSt (a : Int) : impl_isState.f a = some (stB a) := st_body a
/-- The next state of the draws. -/
def nxt (a : Int) : Int := if 0 ≤ a ∧ a < 4294967296 then (1664525 * a + 1013904223) % 4294967296 else 0
theorem sNext (a : Int) : spec_NextState.f a = some (nxt a) := by
  unfold spec_NextState.f spec_l16State.f nxt
  by_cases h0 : 0 ≤ a
  · rw [if_pos h0]; simp only [Option.bind_some]
    by_cases h1 : a < 4294967296
    · rw [if_pos (by simpa using h1), if_pos ⟨h0, h1⟩, wid (x := 1664525 * a) (by omega) (by omega), wid (by omega) (by omega), and_mask]
    · rw [if_neg (by simpa using h1), if_neg (by omega)]
  · rw [if_neg h0, if_neg (by omega)]; rfl
theorem iNext (a : Int) : impl_NextState.f a = some (nxt a) := by
  unfold impl_NextState.f impl_isState.f nxt
  by_cases h0 : 0 ≤ a
  · rw [if_pos h0]; simp only [Option.bind_some]
    by_cases h1 : a < 4294967296
    · rw [if_pos (by simpa using h1), if_pos ⟨h0, h1⟩, wid (x := 1664525 * a) (by omega) (by omega), wid (by omega) (by omega), tmod_nn (by omega)]
    · rw [if_neg (by simpa using h1), if_neg (by omega)]
  · rw [if_neg h0, if_neg (by omega)]; rfl
/-- A draw below n: the number and the next state. -/
def belowI (s n : Int) : Int × Int := if stB s && inB n 1 2147483648 then (nxt s * n / 4294967296, nxt s) else (0, s)
theorem nxt_bd (s : Int) : 0 ≤ nxt s ∧ nxt s < 4294967296 := by unfold nxt; split <;> omega
theorem below_bd {s n : Int} (h : inB n 1 2147483648 = true) : 0 ≤ nxt s * n ∧ nxt s * n ≤ 9223372036854775807 := by
  have h := (inB_iff _ _ _).1 h
  have b := nxt_bd s
  refine ⟨Int.mul_nonneg b.1 (by omega), ?_⟩
  have := Int.mul_le_mul (show nxt s ≤ 4294967295 by omega) h.2 (by omega) (by omega)
  omega
theorem sBelow (s n : Int) : spec_Below.f s n = some (belowI s n) := by
  unfold spec_Below.f belowI
  rw [sSt, sIn, sNext]; simp only [Option.bind_some]
  cases h1 : stB s <;> cases h2 : inB n 1 2147483648
  · rfl
  · rfl
  · rfl
  · have b := below_bd (s := s) h2
    rw [wid (by omega) b.2]; rfl
theorem iBelow (s n : Int) : impl_Below.f s n = some (belowI s n) := by
  unfold impl_Below.f belowI
  rw [iSt, iIn, iNext]; simp only [Option.bind_some]
  cases h1 : stB s <;> cases h2 : inB n 1 2147483648
  · rfl
  · rfl
  · rfl
  · have b := below_bd (s := s) h2
    rw [wid (by omega) b.2]; rfl
def swp (xs : List Int) (i j : Nat) : List Int := (xs.set i (xs.getD j 0)).set j (xs.getD i 0)
def shufL : Nat → List Int → Int → List Int
  | 0, xs, _ => xs
  | i + 1, xs, s => shufL i (swp xs (i + 1) (belowI s ((i + 2 : Nat) : Int)).1.toNat) (belowI s ((i + 2 : Nat) : Int)).2
def rng (n : Nat) : List Int := (List.range n).map Int.ofNat
theorem below_is (s : Int) (m : Nat) (hs : stB s = true) (h1 : 1 ≤ m) (h2 : m ≤ 4097) : belowI s m = (nxt s * m / 4294967296, nxt s) ∧ 0 ≤ nxt s * m / 4294967296 ∧ nxt s * m / 4294967296 < m ∧ stB (nxt s) = true := by
  have b := nxt_bd s
  have hm : inB (m : Int) 1 2147483648 = true := (inB_iff _ _ _).2 (by omega)
  refine ⟨by unfold belowI; rw [hs, hm]; rfl, ?_, ?_, (stB_iff _).2 b⟩
  · exact Int.ediv_nonneg (Int.mul_nonneg b.1 (by omega)) (by decide)
  · refine Int.ediv_lt_of_lt_mul (by decide) ?_
    have := Int.mul_lt_mul_of_pos_right b.2 (show (0 : Int) < m by omega)
    rw [Int.mul_comm (m : Int)]; exact this
theorem swp_len (xs : List Int) (i j : Nat) : (swp xs i j).length = xs.length := by unfold swp; simp
theorem shufL_len : ∀ (i : Nat) (xs : List Int) (s : Int), (shufL i xs s).length = xs.length := by
  intro i
  induction i with
  | zero => intro xs s; rfl
  | succ i ih => intro xs s; rw [shufL, ih, swp_len]
theorem swp_take (xs : List Int) (n i j : Nat) (hi : i < n) (hj : j < n) : (swp xs i j).take n = swp (xs.take n) i j := by
  unfold swp
  rw [List.take_set, List.take_set]
  congr 1
  · congr 1
    simp [List.getD_eq_getElem?_getD, List.getElem?_take, hj]
  · simp [List.getD_eq_getElem?_getD, List.getElem?_take, hi]
theorem shufL_take (n : Nat) (hn : n ≤ 4096) : ∀ (i : Nat) (xs : List Int) (s : Int), i < n → stB s = true → (shufL i xs s).take n = shufL i (xs.take n) s := by
  intro i
  induction i with
  | zero => intro xs s _ _; rfl
  | succ i ih =>
    intro xs s h hs
    obtain ⟨e, b0, b1, b2⟩ := below_is s (i + 2) hs (by omega) (by omega)
    rw [shufL, shufL, e]
    show (shufL i (swp xs (i + 1) (nxt s * ((i + 2 : Nat) : Int) / 4294967296).toNat) (nxt s)).take n = _
    rw [ih _ _ (by omega) b2, swp_take _ _ _ _ h (by omega)]
theorem rng_succ (n : Nat) : rng (n + 1) = rng n ++ [(n : Int)] := by unfold rng; rw [List.range_succ, List.map_append]; rfl
theorem rng_len (n : Nat) : (rng n).length = n := by unfold rng; simp
theorem take_set_succ (xs : List Int) (k : Nat) (x : Int) (h : k < xs.length) : (xs.set k x).take (k + 1) = xs.take k ++ [x] := by
  rw [List.take_succ_eq_append_getElem (by simpa using h)]
  rw [List.take_set_of_le (by omega)]
  simp
def Z : Array Value := Array.replicate 4096 (.int .i64 0)
theorem info59 : (Try.prog.info? 59).map (fun i => (i.zero, i.size)) = some (some (.agg Z), 4096) := by kernel_rfl
theorem u59 : Try.prog.underlying 59 = some (.array 4096 3) := by kernel_rfl
theorem rep_eq (n : Nat) : Array.replicate n (Value.int .i64 0) = ⟨(List.replicate n (0 : Int)).map (fun x => Value.int .i64 x)⟩ := by rw [List.map_replicate]; rfl
theorem Z_eq : Z = ⟨(List.replicate 4096 (0 : Int)).map (fun x => Value.int .i64 x)⟩ := rep_eq 4096
theorem rep_size (n : Nat) : (Array.replicate n (Value.int .i64 0)).size = n := by simp
theorem Z_size : Z.size = 4096 := rep_size 4096
theorem rep_one (n : Nat) : (Array.replicate n (Value.int .i64 0)).all (·.oneCell') = true := by
  rw [Array.all_eq_true]; intro i hi; simp; rfl
theorem Z_one : Z.all (·.oneCell') = true := rep_one 4096
attribute [irreducible] Z
theorem alloc_run (w : World) : (Instr.alloc 59 true (.tuple #[])).run Try.prog w = .ok (.pointer (some ⟨w.heap.size, 0, none⟩)) (w.alloc (.cells Z 59 (0, 0))) := by
  have h := (zero_of_info info59).1 w
  unfold Instr.alloc
  simp only [Sem.run_bind, h, Result.andThen]
  rfl
theorem build_run (w : World) : (Instr.build 59 #[]).run Try.prog w = .ok (.agg Z) w := by
  have h := (zero_of_info info59).1 w
  unfold Instr.build
  have hu : (underlying 59).run Try.prog w = .ok (.array 4096 3) w := by kernel_rfl
  have hs : (sizeOf 3).run Try.prog w = .ok 1 w := by kernel_rfl
  simp only [Sem.run_bind, h, Result.andThen, hu, hs, Array.toList_empty, Instr.fill]
  rfl
theorem op_build (ρ : Operand → Value) (o : Oper) (ho : o.op = .build 59 #[]) (w : World) : (execOp ρ o).run Try.prog w = .ok (.value (.agg Z)) w := by
  unfold execOp
  simp only [ho, Sem.run_bind, Array.map_empty, build_run w, Result.andThen]
  rfl
theorem op_alloc (ρ : Operand → Value) (o : Oper) (ho : o.op = .alloc 59) (w : World) : (execOp ρ o).run Try.prog w = .ok (.value (.pointer (some ⟨w.heap.size, 0, none⟩))) (w.alloc (.cells Z 59 (0, 0))) := by
  unfold execOp
  simp only [ho, Sem.run_bind, alloc_run w, Result.andThen]
  rfl
theorem op_store (ρ : Operand → Value) (o : Oper) (p v : Operand) (ho : o.op = .store 59 p v) (w : World) (hp : ρ p = .pointer (some ⟨w.heap.size, 0, none⟩)) (hv : ρ v = .agg Z) :
    (execOp ρ o).run Try.prog (w.alloc (.cells Z 59 (0, 0))) = .ok .skip (w.alloc (.cells Z 59 (0, 0))) := by
  unfold execOp
  simp only [ho, Sem.run_bind, hp, hv, run_storeAt_new w 59 Z Z (by rw [(zero_of_info info59).2, Z_size]) rfl Z_one, Result.andThen]
  rfl
def OA (W : World) (g : Nat) (xs : List Int) : Prop := W.heap[g]? = some (.cells ⟨xs.map (fun x => Value.int .i64 x)⟩ 59 (0, 0)) ∧ xs.length = 4096
theorem OA.new (W : World) : OA (W.alloc (.cells Z 59 (0, 0))) W.heap.size (List.replicate 4096 0) := ⟨by rw [blk_new, Z_eq], List.length_replicate⟩
theorem OA.cell {W : World} {g : Nat} {xs : List Int} (h : OA W g xs) (i : Nat) (hi : i < 4096) : W.cell? ⟨g, i, none⟩ = some (.int .i64 (xs.getD i 0)) := by
  rw [blk_cell h.1 i]
  have := h.2
  simp [List.getD_eq_getElem?_getD, List.getElem?_eq_getElem (show i < xs.length by omega)]
theorem OA.frozen {W : World} {g : Nat} {xs : List Int} (h : OA W g xs) (i : Nat) : W.frozen? ⟨g, i, none⟩ = false := blk_frozen h.1 i
theorem OA.set {W : World} {g : Nat} {xs : List Int} (h : OA W g xs) (i : Nat) (x : Int) : OA (W.setCell ⟨g, i, none⟩ (.int .i64 x)) g (xs.set i x) :=
  ⟨blk_put h.1 i _ (by simp [List.map_set]), by simp [h.2]⟩
theorem OA.drewN {W : World} {g : Nat} {xs : List Int} (h : OA W g xs) (n : Nat) : OA (W.drewN n) g xs := h
theorem OA.lt {W : World} {g : Nat} {xs : List Int} (h : OA W g xs) : g < W.heap.size := blk_lt h.1
theorem OA.C {W : World} {g : Nat} {xs : List Int} (h : OA W g xs) (k : Nat) (hk : k ≤ 4096) : Kd.C (Kd.int .i64) W (some ⟨g, 0, none⟩) (xs.take k).length (xs.take k) := by
  have hl := h.2
  refine ⟨rfl, by rw [List.length_take]; omega, fun _ => ⟨_, rfl, fun j p hj => ⟨[.int .i64 p], rfl, rfl, fun i u hu => ?_⟩⟩⟩
  cases i with
  | succ i => simp at hu
  | zero =>
    obtain rfl : Value.int .i64 p = u := by simpa using hu
    obtain ⟨hl', he⟩ := List.getElem?_eq_some_iff.1 hj
    rw [List.length_take] at hl'
    rw [List.getElem_take] at he
    have ea : (Addr.add ⟨g, 0, none⟩ (j * (Kd.int .i64).sz + 0)) = (⟨g, j, none⟩ : Addr) := by
      show Addr.add ⟨g, 0, none⟩ (j * 1 + 0) = _
      unfold Addr.add
      by_cases c : j = 0
      · subst c; rfl
      · rw [if_neg (by omega)]; simp
    rw [ea, h.cell j (by omega), List.getD_eq_getElem?_getD, List.getElem?_eq_getElem (show j < xs.length by omega), ← he]; rfl
theorem take_shuf (k : Nat) (hk : k ≤ 4096) (xs : List Int) (s : Int) (hs : stB s = true) (h : xs.take k = rng k) : (shufL (k - 1) xs s).take k = shufL (k - 1) (rng k) s := by
  by_cases c : k = 0
  · subst c; rfl
  · rw [shufL_take k hk (k - 1) xs s (by omega) hs, h]
set_option maxRecDepth 100000 in
set_option maxHeartbeats 1000000 in
theorem shuffle_yes (seed n : Int) (hs : stB seed = true) (h0 : 0 ≤ n) (h1 : n ≤ 4096) (w : World) :
    Calls Try.prog 34 #[.int .i64 seed, .int .i64 n] w fun e w' => ∃ v, e = .returned v ∧ Kd.R (Kd.int .i64) 3 w' w.heap.size (fun _ => True) v (shufL (n - 1).toNat (rng n.toNat) seed) ∧ Below w.heap.size w w' := by
  have a1 := impl_within.calls n 0 4096 true w (by rw [iIn]; unfold inB; simp [h0, h1])
  have a2 := fun w => impl_isState.calls seed true w (by rw [iSt, hs])
  have HS := Aside0.mk hs
  clear hs
  go_enter Try.func34, Try.ntmps34
  go_wp2_with fail
  refine a1.mono ?_
  rintro e w' ⟨rfl, ⟨nd, rfl⟩⟩
  go_wp2_with fail
  refine (a2 _).mono ?_
  rintro e w' ⟨rfl, ⟨nd', rfl⟩⟩
  clear a1 a2
  go_wp2_with (first | ((with_reducible refine gate_dst (N := 17) rfl ?_); refine Kd.event_run rfl (op_build _ _ rfl _) ?_) | ((with_reducible refine gate_dst (N := 5) rfl ?_); refine Kd.event_run rfl (op_alloc _ _ rfl _) ?_) | (refine store_event rfl rfl rfl (op_store _ _ _ _ rfl _ rfl rfl) ?_; rintro w' rfl))
  obtain ⟨N, rfl⟩ := Int.eq_ofNat_of_zero_le h0
  have h1 : N ≤ 4096 := by omega
  obtain ⟨g, hg⟩ : ∃ g, g = w.heap.size := ⟨_, rfl⟩
  have HO := Aside0.mk (OA.new (w.drewN (nd + nd')))
  have HB := Aside0.mk (below_alloc (pw_below_drewN (Below.refl w.heap.size w) (nd + nd')) (.cells Z 59 (0, 0)))
  have HG := Aside0.mk (show w.heap.size ≤ g by omega)
  change Aside0 (OA _ w.heap.size _) at HO
  rw [← hg] at HO ⊢
  clear hg
  go_loopg [19] N (fun kq v19 wr => ∃ (k : Nat) (xs : List Int), v19 = .int .i64 k ∧ Aside0 (k + kq = N ∧ xs.take k = rng k) ∧ Aside0 (OA wr g xs) ∧ Aside0 (Below w.heap.size w wr))
  case atStart => exact ⟨0, _, rfl, ⟨by omega, rfl⟩, HO, HB⟩
  case round =>
    clear HO HB
    obtain ⟨k, xs, rfl, HA, HO, HB⟩ := hrel
    by_cases hk : k < N
    · have hx := HO.out.cell k (by omega)
      have hf := HO.out.frozen k
      have d1 : decide ((k : Int) < (N : Int)) = true := decide_eq_true (by omega)
      go_wp2_with fail
      go_roundg (gk - 1)
      case measure => have := HA.out; omega
      case rel =>
        refine ⟨k + 1, xs.set k k, by go_num, ⟨by have := HA.out; omega, ?_⟩, ⟨HO.out.set k k⟩, ⟨below_set HB.out HG.out⟩⟩
        rw [take_set_succ _ _ _ (by have := HO.out.2; omega), HA.out.2, rng_succ]
    · have d1 : decide ((k : Int) < (N : Int)) = false := decide_eq_false (by omega)
      obtain rfl : k = N := by have := HA.out; omega
      obtain ⟨R, hR⟩ : ∃ R, shufL (((k : Int) - 1).toNat) xs seed = R := ⟨_, rfl⟩
      have HT := Aside0.mk (show R.take k = shufL (k - 1) (rng k) seed by rw [← hR, show ((k : Int) - 1).toNat = k - 1 by omega]; exact take_shuf k h1 xs seed HS.out HA.out.2)
      have HR := Aside0.mk hR
      clear hR
      go_wp2_with fail
      go_loopg [0, 7] k (fun kq v0 v7 wr => ∃ (s i : Int) (xs : List Int), v0 = .int .i64 s ∧ v7 = .int .i64 i ∧ Aside0 (-1 ≤ i ∧ i < k ∧ i.toNat ≤ kq ∧ stB s = true ∧ shufL i.toNat xs s = R) ∧ Aside0 (OA wr g xs) ∧ Aside0 (Below w.heap.size w wr))
      case atStart => exact ⟨seed, (k : Int) - 1, xs, rfl, rfl, ⟨by omega, by omega, by omega, HS.out, HR.out⟩, HO, HB⟩
      case round =>
        clear HO HB HR HA
        obtain ⟨s, i, xs, rfl, rfl, HA, HO, HB⟩ := hrel
        by_cases hi : 0 < i
        · obtain ⟨i, rfl⟩ := Int.eq_ofNat_of_zero_le (show 0 ≤ i by omega)
          have d1 : decide (0 < (i : Int)) = true := decide_eq_true hi
          obtain ⟨m, hm⟩ : ∃ m : Nat, i = m + 1 := ⟨i - 1, by omega⟩
          obtain ⟨e, b0, b1, b2⟩ := below_is s (m + 2) HA.out.2.2.2.1 (by omega) (by have := HA.out; omega)
          obtain ⟨j, hj⟩ := Int.eq_ofNat_of_zero_le b0
          have HN := impl_Below.calls s ((i : Int) + 1) j (nxt s) wr (by rw [show (i : Int) + 1 = ((m + 2 : Nat) : Int) by omega, iBelow, e, hj])
          have HE := Aside0.mk (show shufL (i - 1) (swp xs i j) (nxt s) = R by
            have h := HA.out.2.2.2.2
            rw [Int.toNat_natCast, hm, shufL, e] at h
            rw [← h, hj, hm]; rfl)
          rw [hj] at b1
          have hjm : j < i + 1 := by omega
          have hik : i < k := by have := HA.out; omega
          have B2 := Aside0.mk b2
          have hx := HO.out.cell i (by omega)
          have hf := HO.out.frozen i
          have hy := HO.out.cell j (by omega)
          have hfj := HO.out.frozen j
          have hi0 : 0 < i := by omega
          clear e b0 b1 b2 hj hi hm
          go_wp2_with fail
          refine HN.mono ?_
          rintro e w' ⟨rfl, ⟨nd, rfl⟩⟩
          clear HN
          go_wp2_with fail
          obtain ⟨W, hW⟩ : ∃ W, W = wr.drewN nd := ⟨_, rfl⟩
          rw [← hW]
          have HO := Aside0.mk (show OA W g xs from by rw [hW]; exact HO.out)
          have HB := Aside0.mk (show Below w.heap.size w W from by rw [hW]; exact pw_below_drewN HB.out nd)
          have hx := HO.out.cell i (by omega)
          have hf := HO.out.frozen i
          have hy := HO.out.cell j (by omega)
          have hfj := HO.out.frozen j
          have HE := Aside0.mk (show shufL (i - 1) ((xs.set i (xs.getD j 0)).set j (xs.getD i 0)) (nxt s) = R from HE.out)
          obtain ⟨x, ex⟩ : ∃ x, xs.getD i 0 = x := ⟨_, rfl⟩
          obtain ⟨y, ey⟩ : ∃ y, xs.getD j 0 = y := ⟨_, rfl⟩
          rw [ex] at hx HE
          rw [ey] at hy HE
          have O2 := HO.out.set i y
          have hy2 := O2.cell j (by omega)
          have hf2 := O2.frozen j
          obtain ⟨z, ez⟩ : ∃ z, (xs.set i y).getD j 0 = z := ⟨_, rfl⟩
          rw [ez] at hy2
          have hy3 : ((W.setCell ⟨g, i, none⟩ (.int .i64 y)).drew).cell? ⟨g, j, none⟩ = some (.int .i64 z) := hy2
          have hf3 : ((W.setCell ⟨g, i, none⟩ (.int .i64 y)).drew).frozen? ⟨g, j, none⟩ = false := hf2
          clear hW O2 ex ey ez
          go_region
          go_wp2_with fail
          go_roundg (gk - 1)
          case measure => have := HA.out; omega
          case rel =>
            refine ⟨nxt s, (i : Int) - 1, (xs.set i y).set j x, rfl, by go_num, ⟨by omega, by omega, by have := HA.out; omega, B2.out, ?_⟩, ⟨(HO.out.set i y).set j x⟩, ⟨by apply below_drew1; exact below_set (below_set HB.out HG.out) HG.out⟩⟩
            rw [show ((i : Int) - 1).toNat = i - 1 by omega]; exact HE.out
        · have d1 : decide ((0 : Int) < i) = false := decide_eq_false hi
          have HL := Aside0.mk (show xs.take k = shufL (k - 1) (rng k) seed by
            have h := HA.out.2.2.2.2
            rw [show i.toNat = 0 by omega] at h
            rw [show xs = R from h]; exact HT.out)
          have HC := Aside0.mk (show Kd.C (Kd.int .i64) wr (some ⟨g, 0, none⟩) (xs.take k).length (xs.take k) from HO.out.C k h1)
          have hkl : (xs.take k).length = k := by simp; have := HO.out.2; omega
          obtain ⟨ys, hys⟩ : ∃ ys, ys = xs.take k := ⟨_, rfl⟩
          rw [← hys] at HL HC hkl
          clear hys hi
          go_wp2_with (first
            | ((with_reducible refine gate_dst (N := 49) rfl ?_); refine Kd.R_lit (Kd.int .i64) _ 3 ?hg (N := 49) ?hd (xs := ([] : List Int)) (inner := []) (ok := fun _ => True) (okp := fun _ => True) ?hr ?hp (fun _ hk => hk) trivial (Below.refl _ _) (Nat.le_refl _) (by simp) ?_; (case hd => rfl); (case hg => rfl); (case hr => first | (go_simp; done) | (go_simp; rfl)); (case hp => exact Reps.none _ _); intro v49 w1 ho hb hg_ hnew_; clear hg_ hnew_; have HOW := Aside0.mk (Kd.R_lower ho HB.out.size); have HC1 := Aside0.mk (Kd.C_below HC.out hb); have HB1 := Aside0.mk (below_step HB.out hb); clear ho hb; clear HC HB)
            | ((with_reducible refine gate_dst (N := 52) rfl ?_); refine Kd.R_append_row (fun x => Value.int .i64 x) (0 : Int) w.heap.size rfl (.tmp 49) (.tmp 51) 37 3 (.int .i64 0) 8 rfl Try.underlying37 (by kernel_rfl) rfl (by decide) v49 ([] : List Int) ys (some ⟨g, 0, none⟩) k 4096 (fun _ => True) rfl rfl (fun _ _ => trivial) HOW.out (by have := HC1.out; rw [hkl] at this; exact this) HB1.out HB1.out.size (by simp; omega) ?_; intro v52 w2 ho hb hg_ hnew_; clear hg_ hnew_; have HO2 := Aside0.mk ho; have HB2 := Aside0.mk hb; clear ho hb))
          go_ret
          refine ⟨_, rfl, ?_, HB2.out⟩
          rw [show ((k : Int) - 1).toNat = k - 1 by omega, Int.toNat_natCast, ← HL.out]
          exact HO2.out
def shufR (seed n : Int) : List Int := if stB seed = true ∧ 0 ≤ n ∧ n ≤ 4096 then shufL (n - 1).toNat (rng n.toNat) seed else []
set_option maxRecDepth 100000 in
set_option maxHeartbeats 1000000 in
theorem shuffle_calls (seed n : Int) (w : World) :
    Calls Try.prog 34 #[.int .i64 seed, .int .i64 n] w fun e w' => ∃ v, e = .returned v ∧ Kd.R (Kd.int .i64) 3 w' w.heap.size (fun _ => True) v (shufR seed n) ∧ Below w.heap.size w w' := by
  by_cases h : stB seed = true ∧ 0 ≤ n ∧ n ≤ 4096
  · have e : shufR seed n = shufL (n - 1).toNat (rng n.toNat) seed := if_pos h
    rw [e]; exact shuffle_yes seed n h.1 h.2.1 h.2.2 w
  · have e : shufR seed n = [] := if_neg h
    rw [e]
    have a1 := impl_within.calls n 0 4096 (inB n 0 4096) w (by rw [iIn])
    have a2 := fun w => impl_isState.calls seed (stB seed) w (by rw [iSt])
    have hh : inB n 0 4096 = false ∨ stB seed = false := by
      cases c1 : inB n 0 4096 with
      | false => exact .inl rfl
      | true =>
        cases c2 : stB seed with
        | false => exact .inr rfl
        | true => exact absurd ⟨c2, (inB_iff _ _ _).1 c1⟩ h
    clear h e
    cases c1 : inB n 0 4096 with
    | false =>
      rw [c1] at a1
      clear hh c1
      go_enter Try.func34, Try.ntmps34
      go_wp2_with fail
      refine a1.mono ?_
      rintro e w' ⟨rfl, ⟨nd, rfl⟩⟩
      go_wp2_with fail
      go_ret
      exact ⟨_, rfl, Kd.R_nil _ _ _ _ _, pw_below_drewN (Below.refl _ _) _⟩
    | true =>
      have c2 : stB seed = false := by rcases hh with h | h; (· rw [c1] at h; cases h); exact h
      rw [c1] at a1
      rw [c2] at a2
      clear hh c1 c2
      go_enter Try.func34, Try.ntmps34
      go_wp2_with fail
      refine a1.mono ?_
      rintro e w' ⟨rfl, ⟨nd, rfl⟩⟩
      go_wp2_with fail
      refine (a2 _).mono ?_
      rintro e w' ⟨rfl, ⟨nd, rfl⟩⟩
      go_wp2_with fail
      go_ret
      exact ⟨_, rfl, Kd.R_nil _ _ _ _ _, by repeat (first | exact Below.refl _ _ | apply pw_below_drewN)⟩
/-- The statements' loops. -/
theorem sL1 : ∀ (i k : Nat) (xs : List Int) (s : Int), i < k → i < xs.length → xs.length ≤ 4096 → stB s = true → spec_Shuffle.l1 k xs s i = some (shufL i xs s) := by
  intro i
  induction i with
  | zero =>
    intro k xs s hk _ _ _
    obtain ⟨k, rfl⟩ : ∃ m, k = m + 1 := ⟨k - 1, by omega⟩
    simp only [spec_Shuffle.l1]
    rw [if_neg (by omega)]; rfl
  | succ i ih =>
    intro k xs s hk hl hl2 hs
    obtain ⟨k, rfl⟩ : ∃ m, k = m + 1 := ⟨k - 1, by omega⟩
    obtain ⟨e, b0, b1, b2⟩ := below_is s (i + 2) hs (by omega) (by omega)
    simp only [spec_Shuffle.l1]
    rw [if_pos (by omega), wid (x := ((i + 1 : Nat) : Int) + 1) (by omega) (by omega), show ((i + 1 : Nat) : Int) + 1 = ((i + 2 : Nat) : Int) by omega, sBelow, e]
    simp only [Option.bind_some]
    rw [if_pos (by omega), if_pos (by omega), if_pos b0, if_pos (by omega), wid (x := ((i + 1 : Nat) : Int) - 1) (by omega) (by omega), show ((i + 1 : Nat) : Int) - 1 = (i : Int) by omega, shufL, e]
    have h := ih k (swp xs (i + 1) (nxt s * ((i + 2 : Nat) : Int) / 4294967296).toNat) (nxt s) (by omega) (by rw [swp_len]; omega) (by rw [swp_len]; omega) b2
    exact h
theorem sL0 (s : Int) (n : Nat) (hn : n ≤ 4096) (hs : stB s = true) : ∀ (d k : Nat) (i : Nat), i + d = n → d + 4200 < k → spec_Shuffle.l0 k s n (rng i) i = some (shufL (n - 1) (rng n) s) := by
  intro d
  induction d with
  | zero =>
    intro k i h hk
    obtain ⟨k, rfl⟩ : ∃ m, k = m + 1 := ⟨k - 1, by omega⟩
    obtain rfl : i = n := by omega
    simp only [spec_Shuffle.l0]
    rw [if_neg (by omega), wid (by omega) (by omega)]
    by_cases c : i = 0
    · subst c
      obtain ⟨k, rfl⟩ : ∃ m, k = m + 1 := ⟨k - 1, by omega⟩
      simp only [spec_Shuffle.l1]; rfl
    · rw [show (i : Int) - 1 = ((i - 1 : Nat) : Int) by omega]
      exact sL1 (i - 1) k (rng i) s (by omega) (by rw [rng_len]; omega) (by rw [rng_len]; omega) hs
  | succ d ih =>
    intro k i h hk
    obtain ⟨k, rfl⟩ : ∃ m, k = m + 1 := ⟨k - 1, by omega⟩
    simp only [spec_Shuffle.l0]
    rw [if_pos (by omega), rng_len, if_pos (by omega), wid (by omega) (by omega), ← rng_succ]
    exact ih k (i + 1) (by omega) (by omega)
theorem sShuffle (s n : Int) : spec_Shuffle.f 10000 s n = some (shufR s n) := by
  unfold spec_Shuffle.f shufR
  rw [sSt, sIn]; simp only [Option.bind_some]
  by_cases h1 : stB s = true
  · rw [if_pos h1]
    cases h2 : inB n 0 4096 with
    | true =>
      have h3 := (inB_iff _ _ _).1 h2
      rw [if_pos ⟨h1, h3⟩]
      obtain ⟨N, rfl⟩ := Int.eq_ofNat_of_zero_le h3.1
      have := sL0 s N (by omega) h1 N 9999 0 (by omega) (by omega)
      rw [show ((N : Int) - 1).toNat = N - 1 by omega, Int.toNat_natCast]
      simp only [spec_Shuffle.j0, Bool.not_true, Bool.false_eq_true, if_false]
      exact this
    | false =>
      rw [if_neg (c := stB s = true ∧ 0 ≤ n ∧ n ≤ 4096) (fun g => by rw [(inB_iff _ _ _).2 g.2] at h2; cases h2)]
      simp only [spec_Shuffle.j0, Bool.not_false, if_true]
  · rw [if_neg h1, if_neg (fun g => h1 g.1)]
    simp only [spec_Shuffle.j0, if_true]
end Go.Proofs.Ytjgokmnhhcpkcaa.Shuf
